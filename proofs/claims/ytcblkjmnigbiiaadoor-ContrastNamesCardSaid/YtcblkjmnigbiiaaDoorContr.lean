/-
  What the matrices of the codings hold. Conditions: as each says.
-/
import Derived.Test.YtcblkjmnigbiiaaDoorRats
set_option linter.unusedVariables false
namespace Go.Vw
def codingOk (c n : Int) : Bool := decide (1 ≤ c) && decide (c ≤ 4) && decide (1 ≤ n) && decide (n ≤ 32)
def colsZ (c n : Int) : Int := if c = 4 then n else n - 1
def entryZ (c n i j : Int) : Int :=
  if c = 4 then (if i = j then 1 else 0)
  else if c = 1 then (if i = j + 1 then 1 else 0)
  else if c = 2 then (if i = n - 1 then -1 else if i = j then 1 else 0)
  else (if i ≤ j then -1 else if i = j + 1 then j + 1 else 0)
def rowZ (c n : Int) (i k : Nat) : List R3 := (List.range k).map fun j => zR (entryZ c n i (j : Nat))
def matZ (c n : Int) (k : Nat) : List (List R3) := (List.range k).map fun i => rowZ c n i (colsZ c n).toNat
theorem rowZ_length (c n : Int) (i k : Nat) : (rowZ c n i k).length = k := by simp [rowZ]
theorem matZ_length (c n : Int) (k : Nat) : (matZ c n k).length = k := by simp [matZ]
theorem rowZ_succ (c n : Int) (i k : Nat) : rowZ c n i (k + 1) = rowZ c n i k ++ [zR (entryZ c n i (k : Nat))] := by simp [rowZ, List.range_succ]
theorem matZ_succ (c n : Int) (k : Nat) : matZ c n (k + 1) = matZ c n k ++ [rowZ c n k (colsZ c n).toNat] := by simp [matZ, List.range_succ]
theorem entryZ_bound {c n i j : Int} (hi : 0 ≤ i) (hi' : i < 1000) (hj : 0 ≤ j) (hj' : j < 1000) : -1 ≤ entryZ c n i j ∧ entryZ c n i j ≤ 1000 := by
  unfold entryZ
  split; split <;> omega
  split; split <;> omega
  split; split; omega; split <;> omega
  split; omega; split <;> omega
theorem len_small {z : Int} (h : z.natAbs < 4294967296) : (limbs z.natAbs).length ≤ 1 := length_limbs_le (by simpa [B_val] using h)
end Go.Vw
