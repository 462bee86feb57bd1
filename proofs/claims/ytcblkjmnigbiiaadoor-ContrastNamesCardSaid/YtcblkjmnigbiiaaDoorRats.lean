/-
  Rational numbers as the program holds them; rows, tables, strings. Conditions: none.
-/
import Derived.Test.YtcblkjmnigbiiaaDoorInts
namespace Go.Vw

/-- The fields of a rational number: sign, numerator, denominator. -/
abbrev R3 := Bool × List Nat × List Nat
@[reducible] def rC (r : R3) : List D := [.bool r.1, u32s r.2.1, u32s r.2.2]
@[reducible] def rD (r : R3) : D := .agg (rC r)
/-- The zero number. -/
@[reducible] def r0 : R3 := (false, [], [])
@[reducible] def rsD (l : List R3) : D := .sl 3 rC r0 l
@[reducible] def eR (l : List R3) : List D := [rsD l]
@[reducible] def rssD (l : List (List R3)) : D := .sl 1 eR [] l
@[reducible] def eS (b : List UInt8) : List D := [.str b]
/-- A row of strings. -/
@[reducible] def strsD (l : List (List UInt8)) : D := .sl 1 eS [] l

/-- A whole number. -/
def zR (z : Int) : R3 := (decide (z < 0), limbs z.natAbs, [])
theorem take_ext {α : Type} {a b : List α} {i : Nat} (z : α) (h : a.take i = b.take i) (h1 : i < a.length) (h2 : i < b.length) (e : a.getD i z = b.getD i z) : a.take (i + 1) = b.take (i + 1) := by
  rw [List.take_add_one, List.take_add_one, h]
  simp [List.getD, h1, h2] at e
  simp [h1, h2, e]
end Go.Vw
