/-
  Lists of limbs: lengths of results, digits and bits. Conditions: none.
-/
import Derived.Test.YtcblkjmnigbiiaaDoorLimbsB
namespace Go.Vw

abbrev ln (n : Nat) : Nat := (limbs n).length
theorem lt_ln (n : Nat) : n < B ^ ln n := lt_pow_length n
theorem ln_le {n k : Nat} (h : n < B ^ k) : ln n ≤ k := length_limbs_le h
theorem ln_mono {m n : Nat} (h : m ≤ n) : ln m ≤ ln n := limbs_len_mono h
theorem ln_add (m n : Nat) : ln (m + n) ≤ ln m + ln n + 1 := by
  refine ln_le ?_
  have h1 := lt_ln m
  have h2 := lt_ln n
  have h3 : B ^ ln m ≤ B ^ (ln m + ln n) := Nat.pow_le_pow_right (by decide) (by omega)
  have h4 : B ^ ln n ≤ B ^ (ln m + ln n) := Nat.pow_le_pow_right (by decide) (by omega)
  rw [Nat.pow_succ]
  have : B ^ (ln m + ln n) * 2 ≤ B ^ (ln m + ln n) * B := Nat.mul_le_mul_left _ (by decide)
  omega
theorem ln_add1 {m n k : Nat} (h1 : ln m ≤ k) (h2 : ln n ≤ k) : ln (m + n) ≤ k + 1 := by
  refine ln_le ?_
  have h1' := Nat.lt_of_lt_of_le (lt_ln m) (Nat.pow_le_pow_right (show 0 < B by decide) h1)
  have h2' := Nat.lt_of_lt_of_le (lt_ln n) (Nat.pow_le_pow_right (show 0 < B by decide) h2)
  rw [Nat.pow_succ]
  have : B ^ k * 2 ≤ B ^ k * B := Nat.mul_le_mul_left _ (by decide)
  omega
theorem ln_mul (m n : Nat) : ln (m * n) ≤ ln m + ln n := by
  refine ln_le ?_
  rw [Nat.pow_add]
  by_cases h : n = 0
  · subst h; exact Nat.mul_pos (Nat.pow_pos (by decide)) (Nat.pow_pos (by decide))
  · exact Nat.mul_lt_mul_of_lt_of_le (lt_ln m) (Nat.le_of_lt (lt_ln n)) (Nat.pow_pos (by decide))
theorem ln_zero : ln 0 = 0 := by simp [ln, limbs_zero]
theorem ln_one : ln 1 = 1 := by simp [ln, limbs, B_val]
theorem ln_small {n : Nat} (h : n < B) : ln n ≤ 1 := ln_le (by simpa using h)
theorem limbs_small {n : Nat} (h : n < B) (h0 : n ≠ 0) : limbs n = [n] := by
  rw [limbs_pos h0, Nat.mod_eq_of_lt h, Nat.div_eq_of_lt h, limbs_zero]
theorem nv_val {l : List Nat} (h : valid l = true) : nv l = val l := by simp [nv, takeL, h]
theorem limbs_val {l : List Nat} (h : WF l) (hv : valid l = true) : limbs (val l) = l := by
  rw [← trimL_limbs h, valid_trim hv]
theorem limbs_nv {l : List Nat} (h : WF l) (hv : valid l = true) : limbs (nv l) = l := by rw [nv_val hv, limbs_val h hv]

theorem getD_limbs (n i : Nat) : (limbs n).getD i 0 = n / B ^ i % B := by
  induction i generalizing n with
  | zero =>
    by_cases h : n = 0
    · subst h; simp [limbs_zero]
    · rw [limbs_pos h]; simp
  | succ i ih =>
    by_cases h : n = 0
    · subst h; simp [limbs_zero]
    · rw [limbs_pos h, List.getD_cons_succ, ih, Nat.pow_succ, Nat.mul_comm, ← Nat.div_div_eq_div_mul]

theorem bit_of_limb (n i : Nat) : (limbs n).getD (i / 32) 0 / 2 ^ (i % 32) % 2 = n / 2 ^ i % 2 := by
  rw [getD_limbs]
  have e : n / 2 ^ i = n / B ^ (i / 32) / 2 ^ (i % 32) := by
    rw [Nat.div_div_eq_div_mul, B_val, show (4294967296 : Nat) = 2 ^ 32 from rfl, ← Nat.pow_mul, ← Nat.pow_add, Nat.div_add_mod]
  rw [e]
  generalize n / B ^ (i / 32) = x
  have h : i % 32 < 32 := Nat.mod_lt _ (by decide)
  generalize i % 32 = r at h
  have hB : B = 2 ^ r * (2 * 2 ^ (31 - r)) := by
    rw [← Nat.mul_assoc, Nat.mul_comm (2 ^ r), Nat.mul_assoc, ← Nat.pow_add, show r + (31 - r) = 31 by omega]
  rw [hB, Nat.mod_mul_right_div_self, Nat.mod_mul_right_mod]
theorem and1 (x : Nat) (h : x < B) : ((BitVec.ofInt 32 (x : Int) &&& BitVec.ofInt 32 1).toNat : Nat) = x % 2 := by
  rw [BitVec.toNat_and]
  have h1 : (BitVec.ofInt 32 (x : Int)).toNat = x := by
    simp; rw [B_val] at h; omega
  have h2 : (BitVec.ofInt 32 (1 : Int)).toNat = 1 := rfl
  rw [h1, h2, Nat.and_one_is_mod]

theorem div_pow_step (a k : Nat) (h : 0 < k) : a / 2 ^ (k - 1) = 2 * (a / 2 ^ k) + a / 2 ^ (k - 1) % 2 := by
  have e : a / 2 ^ k = a / 2 ^ (k - 1) / 2 := by
    rw [Nat.div_div_eq_div_mul, ← Nat.pow_succ, show (k - 1).succ = k by omega]
  rw [e]; omega
theorem div_bits_zero (n : Nat) : n / 2 ^ (32 * ln n) = 0 := by
  refine Nat.div_eq_of_lt ?_
  rw [Nat.pow_mul]
  exact lt_ln n
end Go.Vw
