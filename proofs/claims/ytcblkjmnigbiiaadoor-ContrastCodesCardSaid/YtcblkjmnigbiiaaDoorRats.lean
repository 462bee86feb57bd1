/-
  Rows of numbers, and rows of rows. Conditions: as each says.
-/
import Derived.Test.YtcblkjmnigbiiaaDoorInts
set_option autoImplicit false
set_option linter.unusedVariables false
namespace Go.Ab
open Go.RowKit

/-- The fields of a rational number: sign, numerator, denominator. -/
abbrev R3 := Bool × List Nat × List Nat
def rC (r : R3) : List D := [.bool r.1, u32s r.2.1, u32s r.2.2]
def rD (r : R3) : D := .agg (rC r)
def rsD (l : List R3) : D := .sl l.length (l.flatMap rC)
def rssD (l : List (List R3)) : D := .sl l.length (l.map rsD)

/-- A row of strings. -/
def strsD (l : List ByteArray) : D := .sl l.length (l.map D.str)
theorem str_eq (a b : ByteArray) : (a.toList == b.toList) = decide (a = b) := by
  by_cases h : a = b
  · subst h; simp
  · rw [decide_eq_false h, beq_eq_false_iff_ne]
    intro e
    rw [ByteArray.toList_eq, ByteArray.toList_eq] at e
    exact h (ByteArray.ext (Array.ext' e))
theorem flat_len (l : List R3) : (l.flatMap rC).length = l.length * 3 := by
  induction l with
  | nil => rfl
  | cons a l ih => rw [List.flatMap_cons, List.length_append, ih]; simp [rC]; omega
theorem flat_drop (l : List R3) (i : Nat) : (l.flatMap rC).drop (i * 3) = (l.drop i).flatMap rC := by
  induction l generalizing i with
  | nil => simp
  | cons a l ih =>
    cases i with
    | zero => simp
    | succ i =>
      rw [List.flatMap_cons, List.drop_succ_cons, ← ih, show (i + 1) * 3 = (rC a).length + i * 3 by simp [rC]; omega, List.drop_append]
      simp
theorem flat_at (l : List R3) (i : Nat) (h : i < l.length) (z : R3) : ((l.flatMap rC).drop (i * 3)).take 3 = rC (l.getD i z) := by
  rw [flat_drop, List.drop_eq_getElem_cons h, List.flatMap_cons]
  have : 3 = (rC l[i]).length := rfl
  rw [this, List.take_append_of_le_length (Nat.le_refl _), List.take_length]
  simp [List.getD, h]
theorem flat_snoc (l : List R3) (r : R3) : l.flatMap rC ++ rC r = (l ++ [r]).flatMap rC := by simp
theorem rfz1 (l : List R3) : D.sl l.length ((l.flatMap rC).take (l.length * 3)) = rsD l := by
  rw [← flat_len, List.take_length]; rfl
theorem rfrz1 (l : List R3) : [D.sl l.length ((l.flatMap rC).take (l.length * 3))] = [rsD l] := by rw [rfz1]
theorem rrfz1 (l : List (List R3)) : D.sl l.length ((l.map rsD).take (l.length * 1)) = rssD l := by
  rw [Nat.mul_one, List.take_of_length_le (by simp), rssD]

section
variable {X : Ctx} {T : TypeId → Option TyD} {all : Array Oper} {Q : Exit → St → Prop} {s : St} {o : Oper} {rest : List Oper} {dst : Option Tmp} {ty : TypeId} {pos : String} {after : Array Edge} {g : Option (Nat × Bool)}
/-- A number of a row is read. -/
theorem awpL_ldr {bt : TypeId} {bx : Operand} (hT : TabOk X.P T) {l : List R3} {i j : Nat} {s1 : St} {d : Option Tmp} (h : evalS T X.N all s ⟨dst, .load bt bx, ty, pos, after, g⟩ = some (i * 3 + 3 ≤ (l.flatMap rC).length, s1.put d (.d (.agg (((l.flatMap rC).drop (i * 3)).take 3))))) (hi : i = j) (hj : j < l.length) (k : awpL X all rest Q (s1.put d (.d (rD (l.getD j default))))) : awpL X all (⟨dst, .load bt bx, ty, pos, after, g⟩ :: rest) Q s := by
  subst hi
  exact awpL_to hT h (by rw [flat_len]; omega) (congrArg V.d (congrArg D.agg (flat_at l i hj default))) k
/-- A row of a table is read. -/
theorem awpL_ldm {α : Type} {f : α → D} {bt : TypeId} {bx : Operand} (z : α) (hT : TabOk X.P T) {l : List α} {i j : Nat} {s1 : St} {d : Option Tmp} (h : evalS T X.N all s ⟨dst, .load bt bx, ty, pos, after, g⟩ = some (i < (l.map f).length, s1.put d (.d ((l.map f).getD i .undef)))) (hi : i = j) (hj : j < l.length) (k : awpL X all rest Q (s1.put d (.d (f (l.getD j z))))) : awpL X all (⟨dst, .load bt bx, ty, pos, after, g⟩ :: rest) Q s := by
  subst hi
  exact awpL_to hT h (by simpa using hj) (congrArg V.d (getD_map f l i z hj)) k
/-- A number is appended to a row of the call's own. -/
theorem awpL_appr {c : Call} (hT : TabOk X.P T) {l : List R3} {k : Nat} {e : TypeId} {b : Bool} {m n : List Nat} {s1 : St} {d : Option Tmp} {sz : Nat}
    (h : evalS T X.N all s ⟨dst, .call c, ty, pos, after, g⟩ = some (l.length * 3 = (l.flatMap rC).length ∧ 1 * 3 = [D.bool b, u32s m, u32s n].length ∧ l.length + 1 ≤ maxLen ∧ (l.length + 1) * sz ≤ 140737488355328, (s1.new k (.data e (l.flatMap rC ++ [D.bool b, u32s m, u32s n]))).put d (.own k (l.length + 1) e 3)))
    (hl : l.length < 100000000000) (hsz : sz ≤ 100) (K : awpL X all rest Q ((s1.new k (.data e ((l ++ [(b, m, n)]).flatMap rC))).put d (.own k (l ++ [(b, m, n)]).length e 3))) : awpL X all (⟨dst, .call c, ty, pos, after, g⟩ :: rest) Q s := by
  refine awpL_step hT h ⟨(flat_len l).symm, rfl, by simp [maxLen]; omega, ?_⟩ ?_
  · have := Nat.mul_le_mul (show l.length + 1 ≤ 100000000000 by omega) hsz
    omega
  rw [← flat_snoc, List.length_append] at K
  exact K
/-- Something of one cell is appended. -/
theorem awpL_appm {α : Type} {f : α → D} {c : Call} (hT : TabOk X.P T) {l : List α} {k : Nat} {e : TypeId} {x : α} {y : D} {s1 : St} {d : Option Tmp} {sz : Nat}
    (h : evalS T X.N all s ⟨dst, .call c, ty, pos, after, g⟩ = some (l.length * 1 = (l.map f).length ∧ 1 * 1 = [y].length ∧ l.length + 1 ≤ maxLen ∧ (l.length + 1) * sz ≤ 140737488355328, (s1.new k (.data e (l.map f ++ [y]))).put d (.own k (l.length + 1) e 1)))
    (hy : y = f x) (hl : l.length < 100000000000) (hsz : sz ≤ 100) (K : awpL X all rest Q ((s1.new k (.data e ((l ++ [x]).map f))).put d (.own k (l ++ [x]).length e 1))) : awpL X all (⟨dst, .call c, ty, pos, after, g⟩ :: rest) Q s := by
  subst hy
  refine awpL_step hT h ⟨by simp, rfl, by simp [maxLen]; omega, ?_⟩ ?_
  · have := Nat.mul_le_mul (show l.length + 1 ≤ 100000000000 by omega) hsz
    omega
  simpa using K
end
theorem Mono1.ldr {P : Program} {T : TypeId → Option TyD} {all : Array Oper} {s : St} {o : Oper} {l : List R3} {i j : Nat} (h : gd all s o = some true) (hq : evalQF T s o.op = some (i * 3 + 3 ≤ (l.flatMap rC).length, .d (.agg (((l.flatMap rC).drop (i * 3)).take 3)))) (hi : i = j) (hj : j < l.length) : Mono1 P T all s o (.d (rD (l.getD j default))) := by
  subst hi
  exact Mono1.to h hq (by rw [flat_len]; omega) (congrArg V.d (congrArg D.agg (flat_at l i hj default)))
theorem Mono1.ldm {P : Program} {T : TypeId → Option TyD} {all : Array Oper} {s : St} {o : Oper} {α : Type} {f : α → D} (z : α) {l : List α} {i j : Nat} (h : gd all s o = some true) (hq : evalQF T s o.op = some (i < (l.map f).length, .d ((l.map f).getD i .undef))) (hi : i = j) (hj : j < l.length) : Mono1 P T all s o (.d (f (l.getD j z))) := by
  subst hi
  exact Mono1.to h hq (by simpa using hj) (congrArg V.d (getD_map f l i z hj))

/-- The fields of an integer as a rational number. -/
def zR (z : Int) : R3 := (decide (z < 0), limbs z.natAbs, [])
theorem take_ext {α : Type} {a b : List α} {i : Nat} (z : α) (h : a.take i = b.take i) (h1 : i < a.length) (h2 : i < b.length) (e : a.getD i z = b.getD i z) : a.take (i + 1) = b.take (i + 1) := by
  rw [List.take_add_one, List.take_add_one, h]
  simp [List.getD, h1, h2] at e
  simp [h1, h2, e]
end Go.Ab
