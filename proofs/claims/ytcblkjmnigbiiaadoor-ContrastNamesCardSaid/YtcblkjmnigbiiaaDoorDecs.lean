/-
  Decimal digits of a number; the names of the columns. Conditions: as each says.
-/
import Derived.Test.YtcblkjmnigbiiaaDoorContr
import Derived.Test.YtcblkjmnigbiiaaDoorLimbs
set_option linter.unusedVariables false
set_option linter.unusedSimpArgs false
namespace Go.Vw
/-- The decimal digits, as bytes. -/
def decF : Nat → Nat → List UInt8
  | 0, n => [UInt8.ofNat (48 + n % 10)]
  | k + 1, n => if n < 10 then [UInt8.ofNat (48 + n)] else decF k (n / 10) ++ [UInt8.ofNat (48 + n % 10)]
def dec (n : Nat) : List UInt8 := decF n n
theorem decF_eq : ∀ (k l n : Nat), n ≤ k → n ≤ l → decF k n = decF l n
  | 0, 0, n, _, _ => rfl
  | 0, l + 1, n, h1, h2 => by
    obtain rfl : n = 0 := by omega
    simp [decF]
  | k + 1, 0, n, h1, h2 => by
    obtain rfl : n = 0 := by omega
    simp [decF]
  | k + 1, l + 1, n, h1, h2 => by
    simp only [decF]
    split
    · rfl
    · rw [decF_eq k l (n / 10) (by omega) (by omega)]
theorem dec_small {n : Nat} (h : n < 10) : dec n = [UInt8.ofNat (48 + n)] := by
  unfold dec
  cases n with
  | zero => simp [decF]
  | succ n => simp only [decF]; rw [if_pos h]
theorem dec_big {n : Nat} (h : ¬ n < 10) : dec n = dec (n / 10) ++ [UInt8.ofNat (48 + n % 10)] := by
  unfold dec
  cases n with
  | zero => omega
  | succ n =>
    simp only [decF]
    rw [if_neg h, decF_eq n _ ((n + 1) / 10) (by omega) (Nat.le_refl _)]

def nameZ (c : Int) (levels : List (List UInt8)) (j : Nat) : List UInt8 :=
  if c = 4 then 61 :: levels.getD j [] else if c = 1 then 61 :: levels.getD (j + 1) [] else 46 :: dec (j + 1)
def namesZ (c : Int) (levels : List (List UInt8)) (k : Nat) : List (List UInt8) := (List.range k).map (nameZ c levels)
theorem namesZ_succ (c : Int) (levels : List (List UInt8)) (k : Nat) : namesZ c levels k ++ [nameZ c levels k] = namesZ c levels (k + 1) := by simp [namesZ, List.range_succ]
theorem namesZ_len (c : Int) (levels : List (List UInt8)) (k : Nat) : (namesZ c levels k).length = k := by simp [namesZ]
/-- What the library has at hand for the numbers below 100. -/
theorem dec_tab : ∀ n < 100, dec n = if n < 10 then [UInt8.ofNat (48 + n)] else [UInt8.ofNat (48 + n / 10), UInt8.ofNat (48 + n % 10)] := by decide +kernel
end Go.Vw
