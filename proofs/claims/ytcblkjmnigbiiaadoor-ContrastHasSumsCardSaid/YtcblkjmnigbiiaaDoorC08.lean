/-
  Contracts of functions of the program, walked with the abstract layer. Conditions: as each says.
-/
import Derived.Test.YtcblkjmnigbiiaaDoorC06
import Derived.Test.YtcblkjmnigbiiaaDoorR07
set_option linter.unusedVariables false
set_option linter.unusedSimpArgs false
namespace Go.Proofs.YtcblkjmnigbiiaaDoor
open Go.Vw
attribute [local irreducible] awp awpL awpR

theorem tmod_fact (k n : Int) (h : 0 < n) : -n < k.tmod n ∧ k.tmod n < n ∧ k % n = if k.tmod n < 0 then k.tmod n + n else k.tmod n := by
  have b1 := Int.emod_nonneg k (show n ≠ 0 by omega)
  have b2 := Int.emod_lt_of_pos k h
  by_cases h0 : 0 ≤ k
  · rw [Int.tmod_eq_emod_of_nonneg h0]
    refine ⟨by omega, by omega, ?_⟩
    rw [if_neg (by omega)]
  · obtain ⟨m, rfl⟩ : ∃ m : Int, k = -m := ⟨-k, by omega⟩
    rw [Int.neg_tmod, Int.tmod_eq_emod_of_nonneg (show 0 ≤ m by omega)]
    have c1 := Int.emod_nonneg m (show n ≠ 0 by omega)
    have c2 := Int.emod_lt_of_pos m h
    have e := Int.emod_add_mul_ediv m n
    have e2 := Int.emod_add_mul_ediv (-m) n
    refine ⟨by omega, by omega, ?_⟩
    have key : (-m) % n = (-(m % n)) % n := by
      have e3 : -m = -(m % n) + n * (-(m / n)) := by rw [Int.mul_neg]; omega
      conv => lhs; rw [e3]
      exact Int.add_mul_emod_self_left _ _ _
    rw [key]
    split
    · rename_i hneg
      have : -(m % n) = (-(m % n) + n) + n * (-1) := by omega
      rw [this, Int.add_mul_emod_self_left]
      rw [Int.emod_eq_of_lt (by omega) (by omega)]; omega
    · have : m % n = 0 := by omega
      rw [this]; simp
theorem made_Mod (k n : Int) (hk : -9223372036854775808 ≤ k) (hk' : k < 9223372036854775808) (h : 0 < n) (h' : n < 1000000) : Ret Tryd.prog 16 [.int .i64 k, .int .i64 n] (· = .int .i64 (k % n)) := by
  obtain ⟨t1, t2, t3⟩ := tmod_fact k n h
  rw [t3]
  refine ret_of_awp tab Tryd.func16 rfl rfl (Nat.le_of_ble_eq_true rfl) (fun w0 F0 => ?_)
  repeat' (first
    | (show awpL _ _ _ _ _; first | refine goL ?_ | (refine gdLD rfl rfl (fun _ => ?_) (fun _ => ?_) <;> try (exfalso; omega)) | (refine gdLN rfl rfl (fun _ => ?_) (fun _ => ?_) <;> try (exfalso; omega)) | refine gdL rfl rfl (fun _ => ?_) (fun _ => ?_))
    | (show awp _ _ _ _; first | refine goA ?_ | (refine awp_condD rfl (fun _ => ?_) (fun _ => ?_) <;> try (exfalso; omega)) | (refine awp_condN rfl (fun _ => ?_) (fun _ => ?_) <;> try (exfalso; omega)) | refine awp_cond rfl (fun _ => ?_) (fun _ => ?_))
    | (show andThen _ _ _ _; first | refine goN ?_)
    | (show inBlock _ _ _ _; first | refine goB ?_)
    | (show awpR _ _ _ _ _ _; first | refine goR ?_ | (refine gdRD rfl rfl (fun _ => ?_) (fun _ => ?_) <;> try (exfalso; omega)) | (refine gdRN rfl rfl (fun _ => ?_) (fun _ => ?_) <;> try (exfalso; omega)) | refine gdR rfl rfl (fun _ => ?_) (fun _ => ?_))
    | (show retPost _ _ _ _ _; first | refine finF true rfl rfl sc ?_ | refine finF false rfl rfl sc ?_ | refine finN rfl rfl sc ?_ | refine finL true rfl rfl sc rfl (LeR.cons rfl leL LeR.nil) ?_ | refine finE true rfl rfl sc ?_ | refine finE false rfl rfl sc ?_))
  · rename_i hc; rw [if_pos hc]
  · rename_i hc; rw [if_neg hc]
/-- The sums of a column's first members. -/
def colSum (c n : Int) (i : Nat) (j : Int) : Int := match i with | 0 => 0 | i + 1 => colSum c n i j + entryZ c n i j
def rowSum (c n : Int) (i : Int) (k : Nat) : Int := match k with | 0 => 0 | k + 1 => rowSum c n i k + entryZ c n i k
def dotSum (c n : Int) (i : Nat) (j k : Int) : Int := match i with | 0 => 0 | i + 1 => dotSum c n i j k + entryZ c n i j * entryZ c n i k
theorem rowSum4 (n i : Int) (k : Nat) : rowSum 4 n i k = if 0 ≤ i ∧ i < k then 1 else 0 := by
  induction k with
  | zero => simp [rowSum]
  | succ k ih =>
    simp only [rowSum, ih, entryZ, if_true]
    (repeat' split) <;> omega
theorem colSum2 (n j : Int) (i : Nat) (h : 0 ≤ j) (h' : j < n - 1) (hi : (i : Int) ≤ n) : colSum 2 n i j = (if j < i then 1 else 0) - (if n - 1 < i then 1 else 0) := by
  induction i with
  | zero => simp [colSum]; omega
  | succ i ih =>
    simp only [colSum, ih (by omega), entryZ, Int.reduceEq, if_false, if_true]
    (repeat' split) <;> omega
theorem colSum3 (n j : Int) (i : Nat) (h : 0 ≤ j) : colSum 3 n i j = if (i : Int) ≤ j + 1 then -(i : Int) else 0 := by
  induction i with
  | zero => simp [colSum]
  | succ i ih =>
    simp only [colSum, ih, entryZ, Int.reduceEq, if_false]
    (repeat' split) <;> omega
theorem dotSum3 (n j k : Int) (i : Nat) (h : 0 ≤ k) (h' : k < j) : dotSum 3 n i j k = if (i : Int) ≤ k + 1 then (i : Int) else 0 := by
  induction i with
  | zero => simp [dotSum]
  | succ i ih =>
    simp only [dotSum, ih, entryZ, Int.reduceEq, if_false]
    (repeat' split) <;> (try simp) <;> omega
end Go.Proofs.YtcblkjmnigbiiaaDoor
