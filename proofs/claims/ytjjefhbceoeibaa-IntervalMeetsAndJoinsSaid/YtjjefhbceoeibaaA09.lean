/-
  Contracts of functions of the program, and the layer that they are walked with: RatsM Itv N12 Contr R07 ItvB N13 ItvC ItvD VZ N14 N15 N16 N17 VW. Conditions: as each says.
-/
import Derived.Deep.Slices
import Derived.Carry
import Derived.OpenShut
import Derived.Test.YtjjefhbceoeibaaA08
/-
  Matrices of rational numbers: the elimination as the specification has it, where each pivot stands in its place. Conditions: as each says.
-/
set_option linter.unusedVariables false
set_option linter.unusedSimpArgs false
namespace Go.Vw
@[reducible] def qC (q : Rat) : List D := rC (rq q)
@[reducible] def qD (q : Rat) : D := rD (rq q)
@[reducible] def qsD (l : List Rat) : D := .sl 3 qC 0 l
@[reducible] def eQ (l : List Rat) : List D := [qsD l]
@[reducible] def qssD (l : List (List Rat)) : D := .sl 1 eQ [] l

def timesQ (l : List Rat) (c : Rat) : List Rat := l.map (· * c)
def plusQ (a b : List Rat) : List Rat := List.zipWith (· + ·) a b
def at2 (m : List (List Rat)) (i j : Nat) : Rat := (m.getD i []).getD j 0
def scaleQ (m : List (List Rat)) (j : Nat) : List (List Rat) := m.set j (timesQ (m.getD j []) (1 / at2 m j j))
def elimRow (m : List (List Rat)) (j i : Nat) : List Rat := if i = j then m.getD j [] else plusQ (m.getD i []) (timesQ (m.getD j []) (-(at2 m i j)))
def elimI (m : List (List Rat)) (j i : Nat) : List (List Rat) := (List.range i).map (elimRow m j) ++ m.drop i
def redQ (m : List (List Rat)) (j : Nat) : List (List Rat) := elimI (scaleQ m j) j m.length

theorem elimI_len {m : List (List Rat)} {j i : Nat} (h : i ≤ m.length) : (elimI m j i).length = m.length := by simp [elimI]; omega
theorem elimI_zero (m : List (List Rat)) (j : Nat) : elimI m j 0 = m := by simp [elimI]
theorem elimI_get_i {m : List (List Rat)} {j i : Nat} (h : i < m.length) : (elimI m j i).getD i [] = m.getD i [] := by
  simp [elimI, List.getD_eq_getElem?_getD, List.getElem?_append_right]
theorem elimI_get_j {m : List (List Rat)} {j i : Nat} (h : j < m.length) (hi : i ≤ m.length) : (elimI m j i).getD j [] = m.getD j [] := by
  by_cases e : j < i
  · simp [elimI, List.getD_eq_getElem?_getD, List.getElem?_append_left, e, elimRow]
  · rw [List.getD_eq_getElem?_getD, elimI, List.getElem?_append_right (by simp; omega)]
    simp [List.getD_eq_getElem?_getD, List.getElem?_drop]
    rw [show i + (j - i) = j by omega]
theorem elimI_set {m : List (List Rat)} {j i : Nat} (h : i < m.length) : (elimI m j i).set i (elimRow m j i) = elimI m j (i + 1) := by
  apply List.ext_getElem?
  intro k
  rw [List.getElem?_set]
  by_cases e : i = k
  · subst e
    rw [if_pos rfl, if_pos (by rw [elimI_len (by omega)]; omega)]
    rw [elimI, List.getElem?_append_left (by simp)]
    simp
  · rw [if_neg e]
    by_cases e2 : k < i
    · rw [elimI, elimI, List.getElem?_append_left (by simpa using e2), List.getElem?_append_left (by simp; omega)]
      simp [e2, show k < i + 1 by omega]
    · rw [elimI, elimI, List.getElem?_append_right (by simp; omega), List.getElem?_append_right (by simp; omega)]
      simp only [List.getElem?_drop, List.length_map, List.length_range]
      congr 1; omega
theorem elimI_keep {m : List (List Rat)} {j : Nat} (h : j < m.length) : elimI m j (j + 1) = elimI m j j := by
  rw [← elimI_set h]
  have e : elimRow m j j = m.getD j [] := by simp [elimRow]
  rw [e]
  apply List.ext_getElem?
  intro k
  rw [List.getElem?_set]
  by_cases e : j = k
  · subst e
    rw [if_pos rfl, if_pos (by rw [elimI_len (by omega)]; omega)]
    have h1 := elimI_get_i (j := j) h
    rw [List.getD_eq_getElem?_getD, List.getD_eq_getElem?_getD] at h1
    rw [List.getD_eq_getElem?_getD]
    have l1 : j < (elimI m j j).length := by rw [elimI_len (by omega)]; omega
    rw [List.getElem?_eq_getElem l1, List.getElem?_eq_getElem h] at h1
    rw [List.getElem?_eq_getElem l1, List.getElem?_eq_getElem h]
    simp at h1 ⊢
    exact h1.symm
  · rw [if_neg e]

/-- A number of two machine words at most. -/
def smallQ (q : Rat) : Prop := q.num.natAbs < 18446744073709551616 ∧ q.den < 18446744073709551616
theorem limbs_len2 {n : Nat} (h : n < 18446744073709551616) : (limbs n).length < 1000 := Nat.lt_of_le_of_lt (length_limbs_le (n := n) (k := 2) (by rw [B_val]; exact h)) (by decide)
theorem limbs_len4 {n : Nat} (h : n < 18446744073709551616 * 18446744073709551616) : (limbs n).length < 1000 := Nat.lt_of_le_of_lt (length_limbs_le (n := n) (k := 4) (by rw [B_val]; exact h)) (by decide)
theorem smallQ.ok {q : Rat} (h : smallQ q) : okQ 1000000 q := ⟨Nat.lt_trans (limbs_len2 h.1) (by decide), Nat.lt_trans (limbs_len2 h.2) (by decide)⟩
theorem smallQ.neg {q : Rat} (h : smallQ q) : smallQ (-q) := by unfold smallQ at *; rw [show (-q).num = -q.num from rfl, show (-q).den = q.den from rfl, Int.natAbs_neg]; exact h
theorem smallQ.one : smallQ 1 := by unfold smallQ; decide
theorem num_mul_le (x y : Rat) : (x * y).num.natAbs ≤ x.num.natAbs * y.num.natAbs ∧ (x * y).den ≤ x.den * y.den := by
  rw [Rat.num_mul, Rat.den_mul, ← Int.natAbs_mul]
  refine ⟨?_, Nat.div_le_self _ _⟩
  have hd : ((((x.num * y.num).natAbs.gcd (x.den * y.den) : Nat)) : Int) ∣ x.num * y.num := Int.ofNat_dvd_left.2 (Nat.gcd_dvd_left _ _)
  rw [Int.natAbs_ediv_of_dvd hd]
  exact Nat.div_le_self _ _
theorem smallQ.mul {x y : Rat} (hx : smallQ x) (hy : smallQ y) : okQ 1000000 (x * y) := by
  obtain ⟨h1, h2⟩ := num_mul_le x y
  exact ⟨Nat.lt_trans (limbs_len4 (Nat.lt_of_le_of_lt h1 (Nat.mul_lt_mul'' hx.1 hy.1))) (by decide), Nat.lt_trans (limbs_len4 (Nat.lt_of_le_of_lt h2 (Nat.mul_lt_mul'' hx.2 hy.2))) (by decide)⟩
theorem smallQ.inv {x : Rat} (hx : smallQ x) : smallQ (1 / x) := by
  unfold smallQ at *
  rw [Rat.div_def, Rat.one_mul, Rat.num_inv, Rat.den_inv]
  refine ⟨?_, ?_⟩
  · rw [Int.natAbs_mul, Int.natAbs_natCast]
    refine Nat.lt_of_le_of_lt (Nat.mul_le_mul_right _ (show x.num.sign.natAbs ≤ 1 from ?_)) (by omega)
    rw [Int.natAbs_sign]; split <;> omega
  · split <;> omega

def goodB (n : Nat) (m : List (List Rat)) : Bool := Nat.beq m.length n && m.all fun r => Nat.beq r.length n && r.all fun q => Nat.blt q.num.natAbs 18446744073709551616 && Nat.blt q.den 18446744073709551616
structure GoodM (n : Nat) (m : List (List Rat)) : Prop where
  len : m.length = n
  row : ∀ i, i < n → (m.getD i []).length = n
  small : ∀ i, i < n → ∀ q ∈ m.getD i [], smallQ q
theorem goodB_spec {n : Nat} {m : List (List Rat)} (h : goodB n m = true) : GoodM n m := by
  simp only [goodB, Bool.and_eq_true, List.all_eq_true, Nat.blt_eq] at h
  obtain ⟨h1, h2⟩ := h
  have h1 := Nat.eq_of_beq_eq_true h1
  have mem : ∀ i, i < n → m.getD i [] ∈ m := fun i hi => by
    rw [List.getD_eq_getElem?_getD, List.getElem?_eq_getElem (by omega)]; exact List.getElem_mem _
  exact ⟨h1, fun i hi => Nat.eq_of_beq_eq_true (h2 _ (mem i hi)).1, fun i hi q hq => (h2 _ (mem i hi)).2 q hq⟩
theorem GoodM.at2 {n : Nat} {m : List (List Rat)} (h : GoodM n m) {i j : Nat} (hi : i < n) (hj : j < n) : smallQ (at2 m i j) := by
  refine h.small i hi _ ?_
  unfold Vw.at2
  have hr := h.row i hi
  generalize m.getD i [] = r at *
  rw [List.getD_eq_getElem?_getD, List.getElem?_eq_getElem (by omega)]; exact List.getElem_mem _
/-- The run keeps to small numbers, and each pivot stands in its place. -/
def okRun (n : Nat) : Nat → List (List Rat) → Rat → Bool
  | 0, m, _ => goodB n m
  | k + 1, m, f => !(decide (at2 m (n - (k + 1)) (n - (k + 1)) = 0)) && Nat.blt f.num.natAbs 18446744073709551616 && Nat.blt f.den 18446744073709551616 && goodB n m && goodB n (scaleQ m (n - (k + 1))) && okRun n k (redQ m (n - (k + 1))) (f * at2 m (n - (k + 1)) (n - (k + 1)))
/-- The matrix and the factor before column j. -/
def mAt (m : List (List Rat)) : Nat → List (List Rat)
  | 0 => m
  | j + 1 => redQ (mAt m j) j
def facAt (m : List (List Rat)) : Nat → Rat
  | 0 => 1
  | j + 1 => facAt m j * at2 (mAt m j) j j
structure RunOk (n : Nat) (m : List (List Rat)) : Prop where
  good : ∀ j, j ≤ n → GoodM n (mAt m j)
  piv : ∀ j, j < n → at2 (mAt m j) j j ≠ 0
  fac : ∀ j, j < n → smallQ (facAt m j)
  scaled : ∀ j, j < n → GoodM n (scaleQ (mAt m j) j)
theorem okRun_spec {n : Nat} {m : List (List Rat)} (h : okRun n n m 1 = true) : RunOk n m := by
  have key : ∀ k, k ≤ n → okRun n k (mAt m (n - k)) (facAt m (n - k)) = true := by
    intro k hk
    have aux : ∀ d, d ≤ n → okRun n (n - d) (mAt m d) (facAt m d) = true := by
      intro d
      induction d with
      | zero => intro _; exact h
      | succ d ih =>
        intro hd
        have := ih (by omega)
        rw [show n - d = (n - (d + 1)) + 1 by omega, okRun] at this
        rw [show n - (n - (d + 1) + 1) = d by omega] at this
        simp only [Bool.and_eq_true] at this
        exact this.2
    have := aux (n - k) (by omega)
    rwa [show n - (n - k) = k by omega] at this
  have step : ∀ j, j < n → (at2 (mAt m j) j j ≠ 0 ∧ smallQ (facAt m j)) ∧ GoodM n (mAt m j) ∧ GoodM n (scaleQ (mAt m j) j) := by
    intro j hj
    have := key (n - j) (by omega)
    rw [show n - j = (n - j - 1) + 1 by omega, okRun] at this
    rw [show n - (n - j - 1 + 1) = j by omega] at this
    simp only [Bool.and_eq_true, Bool.not_eq_true', decide_eq_false_iff_not, Nat.blt_eq] at this
    obtain ⟨⟨⟨⟨⟨h1, h2⟩, h3⟩, h4⟩, h5⟩, _⟩ := this
    exact ⟨⟨h1, h2, h3⟩, goodB_spec h4, goodB_spec h5⟩
  refine ⟨fun j hj => ?_, fun j hj => (step j hj).1.1, fun j hj => (step j hj).1.2, fun j hj => (step j hj).2.2⟩
  rcases Nat.lt_or_ge j n with h | h
  · exact (step j h).2.1
  · have := key 0 (by omega)
    rw [show j = n by omega]
    rw [okRun, Nat.sub_zero] at this
    exact goodB_spec this
theorem scaleQ_len (m : List (List Rat)) (j : Nat) : (scaleQ m j).length = m.length := by simp [scaleQ]
end Go.Vw

/-
  Intervals of rational numbers: what the operations are, in plain terms. Conditions: as each says.
-/
set_option linter.unusedVariables false
set_option linter.unusedSimpArgs false
namespace Go.Vw
abbrev I2 := Rat × Rat
/-- The program's form of an interval. -/
@[reducible] def iD (a b : R3) : D := .agg [.bool a.1, u32s a.2.1, u32s a.2.2, .bool b.1, u32s b.2.1, u32s b.2.2]
@[reducible] def iQ (i : I2) : D := iD (rq i.1) (rq i.2)
def takeI (x y : Rat) : I2 := if y < x then (0, 0) else (x, y)
def okI (k : Nat) (i : I2) : Prop := okQ k i.1 ∧ okQ k i.2
theorem okQ_zero {k : Nat} (h : 1 < k) : okQ k 0 := ⟨by show (limbs 0).length < k; rw [limbs_zero]; simp; omega, by show (limbs 1).length < k; rw [limbs_one]; simpa using h⟩
theorem takeI_ok {k : Nat} {x y : Rat} (hx : okQ k x) (hy : okQ k y) (h : 1 < k) : okI k (takeI x y) := by
  unfold takeI; split
  · exact ⟨okQ_zero h, okQ_zero h⟩
  · exact ⟨hx, hy⟩
theorem takeI_le (x y : Rat) : (takeI x y).1 ≤ (takeI x y).2 := by
  unfold takeI; split
  · exact Rat.le_refl
  · rename_i h; exact Rat.not_lt.1 h
theorem takeI_of {x y : Rat} (h : x ≤ y) : takeI x y = (x, y) := by
  unfold takeI; rw [if_neg (Rat.not_lt.2 h)]
def containsI (i : I2) (v : Rat) : Bool := decide (i.1 ≤ v) && decide (v ≤ i.2)
def withinI (a b : I2) : Bool := decide (b.1 ≤ a.1) && decide (a.2 ≤ b.2)
def minQ (x y : Rat) : Rat := if y < x then y else x
def maxQ (x y : Rat) : Rat := if x < y then y else x
def hullL (x : Rat) (l : List Rat) : I2 := (l.foldl minQ x, l.foldl maxQ x)
def addI (a b : I2) : I2 := (a.1 + b.1, a.2 + b.2)
def subI (a b : I2) : I2 := (a.1 - b.2, a.2 - b.1)
def mulI (a b : I2) : I2 := hullL (a.1 * b.1) [a.1 * b.2, a.2 * b.1, a.2 * b.2]
def divI (a b : I2) : I2 := mulI a (1 / b.2, 1 / b.1)
def sqI (a : I2) : I2 := if containsI a 0 then (0, (hullL (a.1 * a.1) [a.2 * a.2]).2) else hullL (a.1 * a.1) [a.2 * a.2]
def hullI (a b : I2) : I2 := hullL a.1 [a.2, b.1, b.2]
def meetI (a b : I2) : Option I2 := if minQ a.2 b.2 < maxQ a.1 b.1 then none else some (maxQ a.1 b.1, minQ a.2 b.2)
theorem okQ_minQ {k : Nat} {x y : Rat} (hx : okQ k x) (hy : okQ k y) : okQ k (minQ x y) := by unfold minQ; split <;> assumption
theorem okQ_maxQ {k : Nat} {x y : Rat} (hx : okQ k x) (hy : okQ k y) : okQ k (maxQ x y) := by unfold maxQ; split <;> assumption
theorem hullL_ok {k : Nat} : ∀ (l : List Rat) (m n : Rat), okQ k m → okQ k n → (∀ q ∈ l, okQ k q) → okQ k (l.foldl minQ m) ∧ okQ k (l.foldl maxQ n)
  | [], m, n, hm, hn, _ => ⟨hm, hn⟩
  | x :: l, m, n, hm, hn, h => hullL_ok l (minQ m x) (maxQ n x) (okQ_minQ hm (h x (by simp))) (okQ_maxQ hn (h x (by simp))) fun q hq => h q (by simp [hq])
theorem foldl_take {α : Type} (f : α → Rat → α) (a : α) (l : List Rat) {i : Nat} (h : i < l.length) : (l.take (i + 1)).foldl f a = f ((l.take i).foldl f a) (l.getD i 0) := by
  rw [List.take_add_one, List.foldl_append]
  simp [List.getD_eq_getElem?_getD, h]
theorem take_ok {k : Nat} {l : List Rat} {x : Rat} (hx : okQ k x) (h : ∀ q ∈ l, okQ k q) (i : Nat) : okQ k ((l.take i).foldl minQ x) ∧ okQ k ((l.take i).foldl maxQ x) := hullL_ok _ x x hx hx fun q hq => h q (List.mem_of_mem_take hq)
theorem getD_ok {k : Nat} {l : List Rat} (h : ∀ q ∈ l, okQ k q) {i : Nat} (hi : i < l.length) : okQ k (l.getD i 0) := by
  have : l.getD i 0 = l[i] := by simp [List.getD_eq_getElem?_getD, hi]
  rw [this]; exact h _ (List.getElem_mem hi)
theorem minQ_le (x y : Rat) : minQ x y ≤ x ∧ minQ x y ≤ y := by unfold minQ; split <;> constructor <;> grind
theorem maxQ_le (x y : Rat) : x ≤ maxQ x y ∧ y ≤ maxQ x y := by unfold maxQ; split <;> constructor <;> grind
theorem hullL_le : ∀ (l : List Rat) (m n : Rat), m ≤ n → l.foldl minQ m ≤ l.foldl maxQ n
  | [], m, n, h => h
  | x :: l, m, n, h => hullL_le l (minQ m x) (maxQ n x) (by have := (minQ_le m x).1; have := (maxQ_le n x).1; grind)
theorem square_nonneg (x : Rat) : 0 ≤ x * x := by
  rcases Rat.le_total (a := 0) (b := x) with h | h
  · exact Rat.mul_nonneg h h
  · have := Rat.mul_nonneg (a := -x) (b := -x) (by grind) (by grind)
    grind
end Go.Vw

set_option linter.unusedVariables false
set_option linter.unusedSimpArgs false
namespace Go.Proofs.Ytjjefhbceoeibaa
open Go.Vw
attribute [local irreducible] awp awpL awpR

theorem rational_CompareQ (x y : Rat) (hx : okQ 1000000 x) (hy : okQ 1000000 y) : Ret Try.prog 19 [qD x, qD y] (· = .int .i64 (cmpQ x y)) := by
  have := rational_Compare (rq x) (rq y) (ok_rq hx) (ok_rq hy)
  rw [rv_rq, rv_rq] at this
  exact this
theorem rational_AddQ (x y : Rat) (hx : okQ 1000000 x) (hy : okQ 1000000 y) : Ret Try.prog 30 [qD x, qD y] (· = qD (x + y)) := by
  have := rational_Add (rq x) (rq y) (ok_rq hx) (ok_rq hy)
  rw [rv_rq, rv_rq] at this
  exact this
theorem rational_MulQ (x y : Rat) (hx : okQ 1000000 x) (hy : okQ 1000000 y) : Ret Try.prog 25 [qD x, qD y] (· = qD (x * y)) := by
  have := rational_Mul (rq x) (rq y) (ok_rq hx) (ok_rq hy)
  rw [rv_rq, rv_rq] at this
  exact this
theorem rational_DivQ (x y : Rat) (hx : okQ 1000000 x) (hy : okQ 1000000 y) : Ret Try.prog 26 [qD x, qD y] (· = if y = 0 then .tup [rD r0, .int .i64 5] else .tup [qD (x / y), .int .i64 0]) := by
  have := rational_Div (rq x) (rq y) (ok_rq hx) (ok_rq hy)
  rw [rv_rq, rv_rq] at this
  exact this
theorem rational_FloorQ (x : Rat) (hx : okQ 1000000 x) : Ret Try.prog 24 [qD x] (· = zD x.floor) := by
  have := rational_Floor (rq x) (ok_rq hx)
  rw [rv_rq] at this
  exact this
theorem rational_SignQ (x : Rat) (hx : okQ 1000000 x) : Ret Try.prog 22 [qD x] (· = .int .i64 x.num.sign) := by
  have := rational_Sign (rq x) (ok_rq hx)
  rw [rv_rq] at this
  exact this
end Go.Proofs.Ytjjefhbceoeibaa

/-
  What the matrices of the codings hold. Conditions: as each says.
-/
set_option linter.unusedVariables false
namespace Go.Vw
def codingOk (c n : Int) : Bool := decide (1 ≤ c) && decide (c ≤ 4) && decide (1 ≤ n) && decide (n ≤ 32)
def colsZ (c n : Int) : Int := if c = 4 then n else n - 1
def entryZ (c n i j : Int) : Int :=
  if c = 4 then (if i = j then 1 else 0)
  else if c = 1 then (if i = j + 1 then 1 else 0)
  else if c = 2 then (if i = n - 1 then -1 else if i = j then 1 else 0)
  else (if i ≤ j then -1 else if i = j + 1 then j + 1 else 0)
def rowZ (c n : Int) (i k : Nat) : List R3 := (List.range k).map fun j => zR (entryZ c n i (j : Nat))
def matZ (c n : Int) (k : Nat) : List (List R3) := (List.range k).map fun i => rowZ c n i (colsZ c n).toNat
theorem rowZ_length (c n : Int) (i k : Nat) : (rowZ c n i k).length = k := by simp [rowZ]
theorem matZ_length (c n : Int) (k : Nat) : (matZ c n k).length = k := by simp [matZ]
theorem rowZ_succ (c n : Int) (i k : Nat) : rowZ c n i (k + 1) = rowZ c n i k ++ [zR (entryZ c n i (k : Nat))] := by simp [rowZ, List.range_succ]
theorem matZ_succ (c n : Int) (k : Nat) : matZ c n (k + 1) = matZ c n k ++ [rowZ c n k (colsZ c n).toNat] := by simp [matZ, List.range_succ]
theorem entryZ_bound {c n i j : Int} (hi : 0 ≤ i) (hi' : i < 1000) (hj : 0 ≤ j) (hj' : j < 1000) : -1 ≤ entryZ c n i j ∧ entryZ c n i j ≤ 1000 := by
  unfold entryZ
  split; split <;> omega
  split; split <;> omega
  split; split; omega; split <;> omega
  split; omega; split <;> omega
theorem len_small {z : Int} (h : z.natAbs < 4294967296) : (limbs z.natAbs).length ≤ 1 := length_limbs_le (by simpa [B_val] using h)
end Go.Vw

set_option linter.unusedVariables false
set_option linter.unusedSimpArgs false
namespace Go.Proofs.Ytjjefhbceoeibaa
open Go.Vw
attribute [local irreducible] awp awpL awpR

theorem rq_int (z : Int) : rq (z : Rat) = zR z := by
  unfold rq zR
  rw [Rat.num_intCast, Rat.den_intCast]
  rfl
theorem okQ_int {z : Int} (h : z.natAbs < 4294967296) : okQ 1000000 (z : Rat) := by
  unfold okQ
  rw [Rat.num_intCast, Rat.den_intCast, limbs_one]
  exact ⟨Nat.lt_of_le_of_lt (len_small h) (by decide), by decide⟩
theorem zR_zero : zR 0 = r0 := by simp [zR, limbs_zero]
theorem zR_inj {x y : Int} (h : zR x = zR y) : x = y := by
  have := rq_inj (p := (x : Rat)) (q := (y : Rat)) (by rw [rq_int, rq_int, h])
  exact Rat.intCast_inj.1 this
theorem okR_int (z : Int) (h : z.natAbs < 4294967296) : okR 100000000000 (zR z) := ⟨Nat.lt_of_le_of_lt (len_small h) (by decide), by show ([] : List Nat).length < _; decide⟩
theorem ref03_SameI (x y : Int) (hx : x.natAbs < 4294967296) (hy : y.natAbs < 4294967296) : Ret Try.prog 32 [rD (zR x), rD (zR y)] (· = .bool (decide (x = y))) := by
  have := ref03_Same (zR x) (zR y) (okR_int x hx) (okR_int y hy)
  rw [show decide (zR x = zR y) = decide (x = y) by
    by_cases h : x = y
    · subst h; simp
    · rw [decide_eq_false h, decide_eq_false (fun e => h (zR_inj e))]] at this
  exact this
end Go.Proofs.Ytjjefhbceoeibaa

/-
  Intervals of rational numbers: the two ways to the same results. Conditions: as each says.
-/
set_option linter.unusedVariables false
set_option linter.unusedSimpArgs false
namespace Go.Vw
@[reducible] def iC (a b : R3) : List D := [.bool a.1, u32s a.2.1, u32s a.2.2, .bool b.1, u32s b.2.1, u32s b.2.2]
/-- A new variable of an interval; of a number. -/
abbrev zR3 : List V := [.d (.bool false), .d .nils, .d .nils]
abbrev zI : List V := [.d (.bool false), .d .nils, .d .nils, .d (.bool false), .d .nils, .d .nils]
theorem leQs (l : List Rat) : LeD (rsD (l.map rq)) (qsD l) := LeD.sl (by simp) fun i a b ha hb => by
  rw [List.getElem?_map, hb] at ha
  have e : rq b = a := Option.some.inj ha
  subst e
  exact ⟨rfl, LeL.refl _⟩
theorem minQ_self (x : Rat) : minQ x x = x := by unfold minQ; split <;> rfl
theorem maxQ_self (x : Rat) : maxQ x x = x := by unfold maxQ; split <;> rfl
theorem withinI_eq {i j : I2} (h : i.1 ≤ i.2) : (containsI j i.1 && containsI j i.2) = withinI i j := by
  unfold containsI withinI
  by_cases h1 : j.1 ≤ i.1 <;> by_cases h2 : i.2 ≤ j.2
  · have h3 : i.1 ≤ j.2 := Rat.le_trans h h2
    have h4 : j.1 ≤ i.2 := Rat.le_trans h1 h
    simp [h1, h2, h3, h4]
  · simp [h2]
  · simp [h1]
  · simp [h1]
theorem rv_r0 : rv r0 = 0 := by rw [← rq_zero, rv_rq]
theorem ok_r0 {k : Nat} (h : 1 < k) : RatOk r0 k := by
  have h0 : (0 : Nat) < k := Nat.lt_of_succ_lt h
  exact ⟨by intro x hx; exact absurd hx (by simp [r0]), by intro x hx; exact absurd hx (by simp [r0]), by simpa [r0] using h0, by simpa [r0] using h0⟩
theorem minQ_comm (x y : Rat) : minQ x y = minQ y x := by unfold minQ; split <;> split <;> grind
theorem maxQ_comm (x y : Rat) : maxQ x y = maxQ y x := by unfold maxQ; split <;> split <;> grind
theorem minQ_swap (x y z : Rat) : minQ (minQ x y) z = minQ (minQ x z) y := by unfold minQ; split <;> split <;> grind
theorem maxQ_swap (x y z : Rat) : maxQ (maxQ x y) z = maxQ (maxQ x z) y := by unfold maxQ; split <;> split <;> grind
def divRef (a b : I2) : I2 := hullL (a.1 / b.1) [a.1 / b.2, a.2 / b.1, a.2 / b.2]
theorem divRef_eq (a b : I2) : divRef a b = divI a b := by
  unfold divRef divI mulI hullL
  simp only [List.foldl_cons, List.foldl_nil, Rat.div_def, Rat.one_mul]
  rw [minQ_comm (a.1 * b.1⁻¹), maxQ_comm (a.1 * b.1⁻¹), minQ_swap _ (a.2 * b.1⁻¹), maxQ_swap _ (a.2 * b.1⁻¹)]
def sqRef (a : I2) : I2 := if containsI a 0 then hullL 0 [a.1 * a.1, a.2 * a.2] else hullL (a.1 * a.1) [a.2 * a.2]
theorem sqRef_eq (a : I2) : sqRef a = sqI a := by
  unfold sqRef sqI
  split
  · have h1 := square_nonneg a.1
    have h2 := square_nonneg a.2
    unfold hullL
    simp only [List.foldl_cons, List.foldl_nil]
    generalize a.1 * a.1 = x at *
    generalize a.2 * a.2 = y at *
    refine Prod.ext ?_ ?_
    · show minQ (minQ 0 x) y = 0
      unfold minQ; (repeat' split) <;> grind
    · show maxQ (maxQ 0 x) y = maxQ x y
      unfold maxQ; (repeat' split) <;> grind
  · rfl
/-- 2 to the power of bits. -/
def twoQ (n : Nat) : Rat := ((2 ^ n : Nat) : Int)
theorem twoQ_ne (n : Nat) : twoQ n ≠ 0 := by
  have h : (2 : Nat) ^ n ≠ 0 := Nat.ne_of_gt (Nat.two_pow_pos n)
  unfold twoQ
  intro hc
  have hh : (((2 ^ n : Nat) : Int) : Rat) = ((0 : Int) : Rat) := hc
  have := Rat.intCast_inj.1 hh
  omega
def rootN (v : Rat) (n : Nat) : Nat := rt (v * (twoQ n * twoQ n)).floor.natAbs
def rootLo (v : Rat) (n : Nat) : Rat := ((rootN v n : Nat) : Int) / twoQ n
def rootI (v : Rat) (n : Nat) : I2 := if rootLo v n * rootLo v n = v then (rootLo v n, rootLo v n) else (rootLo v n, rootLo v n + 1 / twoQ n)
theorem rootHi_eq (v : Rat) (n : Nat) : (((rootN v n : Nat) : Int) + 1 : Int) / twoQ n = rootLo v n + 1 / twoQ n := by
  unfold rootLo
  rw [Rat.div_def, Rat.div_def, Rat.div_def, Rat.one_mul, Rat.intCast_add, Rat.add_mul]
  congr 1
  exact Rat.one_mul _
end Go.Vw

set_option linter.unusedVariables false
set_option linter.unusedSimpArgs false
namespace Go.Proofs.Ytjjefhbceoeibaa
open Go.Vw
attribute [local irreducible] awp awpL awpR

theorem ref03_FromIntQ (v : Int) (h1 : -9223372036854775808 ≤ v) (h2 : v < 9223372036854775808) : Ret Try.prog 13 [.int .i64 v] (· = qD (v : Rat)) := by
  have := ref03_FromInt v h1 h2
  rw [← rq_int] at this
  exact this
theorem okR_of {q : Rat} {k : Nat} (h : okQ k q) (hk : k ≤ 100000000000) : okR 100000000000 (rq q) := ⟨Nat.lt_of_lt_of_le (ok_rq h).lm hk, Nat.lt_of_lt_of_le (ok_rq h).ld hk⟩
theorem ref04_Same (a b c d : R3) (ha : okR 100000000000 a) (hb : okR 100000000000 b) (hc : okR 100000000000 c) (hd : okR 100000000000 d) : Ret Try.prog 14 [iD a b, iD c d] (· = .bool (decide (a = c) && decide (b = d))) := by
  have h1 := ref03_Same a c ha hc
  have h2 := ref03_Same b d hb hd
  generalize decide (a = c) = x at *
  generalize decide (b = d) = y at *
  cases x <;> cases y
  all_goals
    refine ret_of_awp tab Try.func14 rfl rfl (Nat.le_of_ble_eq_true rfl) (fun w0 F0 => ?_)
    repeat' (first
      | (show awpL _ _ _ _ _; first | refine goL ?_ | refine cl 32 tt rfl rfl rfl (hr := h1) (k := ?_) | refine cl 32 tt rfl rfl rfl (hr := h2) (k := ?_) | (refine gdLD rfl rfl (fun _ => ?_) (fun _ => ?_) <;> try (exfalso; omega)) | (refine gdLN rfl rfl (fun _ => ?_) (fun _ => ?_) <;> try (exfalso; omega)) | refine gdL rfl rfl (fun _ => ?_) (fun _ => ?_))
      | (show awp _ _ _ _; first | refine goA ?_ | (refine awp_condD rfl (fun _ => ?_) (fun _ => ?_) <;> try (exfalso; omega)) | (refine awp_condN rfl (fun _ => ?_) (fun _ => ?_) <;> try (exfalso; omega)) | refine awp_cond rfl (fun _ => ?_) (fun _ => ?_))
      | (show andThen _ _ _ _; first | refine goN ?_)
      | (show inBlock _ _ _ _; first | refine goB ?_)
      | (show awpR _ _ _ _ _ _; first | refine goR ?_ | refine clR 32 tt rfl rfl rfl (hr := h1) (k := ?_) | refine clR 32 tt rfl rfl rfl (hr := h2) (k := ?_) | (refine gdRD rfl rfl (fun _ => ?_) (fun _ => ?_) <;> try (exfalso; omega)) | (refine gdRN rfl rfl (fun _ => ?_) (fun _ => ?_) <;> try (exfalso; omega)) | refine gdR rfl rfl (fun _ => ?_) (fun _ => ?_))
      | (show retPost _ _ _ _ _; first | refine finF true rfl rfl sc ?_ | refine finF false rfl rfl sc ?_ | refine finC false rfl rfl sc sc ?_ | refine finN rfl rfl sc ?_ | refine finL true rfl rfl sc rfl (LeR.cons rfl leL LeR.nil) ?_ | refine finE true rfl rfl sc ?_ | refine finE false rfl rfl sc ?_))
    rfl
theorem ref04_SameI (i j : I2) (hi : okI 1000000 i) (hj : okI 1000000 j) : Ret Try.prog 14 [iQ i, iQ j] (· = .bool (decide (i = j))) := by
  have := ref04_Same (rq i.1) (rq i.2) (rq j.1) (rq j.2) (okR_of hi.1 (by decide)) (okR_of hi.2 (by decide)) (okR_of hj.1 (by decide)) (okR_of hj.2 (by decide))
  have e : (decide (rq i.1 = rq j.1) && decide (rq i.2 = rq j.2)) = decide (i = j) := by
    rw [← Bool.decide_and]
    refine decide_eq_decide.2 ⟨fun h => Prod.ext (rq_inj h.1) (rq_inj h.2), fun h => by rw [h]; exact ⟨rfl, rfl⟩⟩
  rw [e] at this
  exact this
theorem nonzero_of {i : I2} (hle : i.1 ≤ i.2) (h : containsI i 0 = false) : i.1 ≠ 0 ∧ i.2 ≠ 0 := by
  constructor
  · intro e
    rw [show containsI i 0 = true by unfold containsI; rw [e] at hle ⊢; simp [hle]] at h
    exact absurd h (by decide)
  · intro e
    rw [show containsI i 0 = true by unfold containsI; rw [e] at hle ⊢; simp [hle]] at h
    exact absurd h (by decide)
end Go.Proofs.Ytjjefhbceoeibaa

/-
  Intervals of rational numbers: what holds of the results of the operations. Conditions: as each says.
-/
set_option linter.unusedVariables false
set_option linter.unusedSimpArgs false
namespace Go.Vw
/-- A number lies in an interval. -/
def In (i : I2) (v : Rat) : Prop := i.1 ≤ v ∧ v ≤ i.2
theorem containsI_iff {i : I2} {v : Rat} : containsI i v = true ↔ In i v := by unfold containsI In; simp
theorem withinI_iff {i j : I2} : withinI i j = true ↔ j.1 ≤ i.1 ∧ i.2 ≤ j.2 := by unfold withinI; simp
theorem withinI_of {i j : I2} (h1 : In j i.1) (h2 : In j i.2) : withinI i j = true := withinI_iff.2 ⟨h1.1, h2.2⟩
theorem In.mono {i j : I2} {v : Rat} (h : withinI i j = true) (hv : In i v) : In j v := by
  have := withinI_iff.1 h
  exact ⟨Rat.le_trans this.1 hv.1, Rat.le_trans hv.2 this.2⟩
theorem foldl_minQ_le : ∀ (l : List Rat) (m : Rat), l.foldl minQ m ≤ m ∧ ∀ x ∈ l, l.foldl minQ m ≤ x
  | [], m => ⟨Rat.le_refl, by simp⟩
  | x :: l, m => by
    have h := foldl_minQ_le l (minQ m x)
    have h2 := minQ_le m x
    refine ⟨Rat.le_trans h.1 h2.1, ?_⟩
    intro y hy
    rcases List.mem_cons.1 hy with e | e
    · rw [e]; exact Rat.le_trans h.1 h2.2
    · exact h.2 y e
theorem foldl_maxQ_le : ∀ (l : List Rat) (m : Rat), m ≤ l.foldl maxQ m ∧ ∀ x ∈ l, x ≤ l.foldl maxQ m
  | [], m => ⟨Rat.le_refl, by simp⟩
  | x :: l, m => by
    have h := foldl_maxQ_le l (maxQ m x)
    have h2 := maxQ_le m x
    refine ⟨Rat.le_trans h2.1 h.1, ?_⟩
    intro y hy
    rcases List.mem_cons.1 hy with e | e
    · rw [e]; exact Rat.le_trans h2.2 h.1
    · exact h.2 y e
theorem minQ_mem (x y : Rat) : minQ x y = x ∨ minQ x y = y := by unfold minQ; split <;> simp
theorem maxQ_mem (x y : Rat) : maxQ x y = x ∨ maxQ x y = y := by unfold maxQ; split <;> simp
theorem foldl_minQ_mem : ∀ (l : List Rat) (m : Rat), l.foldl minQ m ∈ m :: l
  | [], m => by simp
  | x :: l, m => by
    have h := foldl_minQ_mem l (minQ m x)
    rw [List.foldl_cons]
    rcases List.mem_cons.1 h with e | e
    · rw [e]; rcases minQ_mem m x with e | e <;> rw [e] <;> simp
    · simp [e]
theorem foldl_maxQ_mem : ∀ (l : List Rat) (m : Rat), l.foldl maxQ m ∈ m :: l
  | [], m => by simp
  | x :: l, m => by
    have h := foldl_maxQ_mem l (maxQ m x)
    rw [List.foldl_cons]
    rcases List.mem_cons.1 h with e | e
    · rw [e]; rcases maxQ_mem m x with e | e <;> rw [e] <;> simp
    · simp [e]
theorem hullL_in {x : Rat} {l : List Rat} : ∀ v ∈ x :: l, In (hullL x l) v := by
  intro v hv
  have h1 := foldl_minQ_le l x
  have h2 := foldl_maxQ_le l x
  rcases List.mem_cons.1 hv with e | e
  · rw [e]; exact ⟨h1.1, h2.1⟩
  · exact ⟨h1.2 v e, h2.2 v e⟩
theorem hullL_lo (x : Rat) (l : List Rat) : (hullL x l).1 ∈ x :: l := foldl_minQ_mem l x
theorem hullL_hi (x : Rat) (l : List Rat) : (hullL x l).2 ∈ x :: l := foldl_maxQ_mem l x
theorem hullL_inc (x : Rat) (l : List Rat) : (hullL x l).1 ≤ (hullL x l).2 := hullL_le l x x Rat.le_refl
theorem mulR {a b c : Rat} (h : a ≤ b) (hc : 0 ≤ c) : a * c ≤ b * c := Rat.mul_le_mul_of_nonneg_right h hc
theorem mulRn {a b c : Rat} (h : a ≤ b) (hc : c ≤ 0) : b * c ≤ a * c := by
  have := Rat.mul_le_mul_of_nonneg_right (c := -c) h (by grind)
  grind
/-- A product lies between the products with the ends. -/
theorem lin {m n x y a b : Rat} (h1 : a ≤ x) (h2 : x ≤ b) (ha : m ≤ a * y ∧ a * y ≤ n) (hb : m ≤ b * y ∧ b * y ≤ n) : m ≤ x * y ∧ x * y ≤ n := by
  rcases Rat.le_total (a := 0) (b := y) with h | h
  · exact ⟨Rat.le_trans ha.1 (mulR h1 h), Rat.le_trans (mulR h2 h) hb.2⟩
  · exact ⟨Rat.le_trans hb.1 (mulRn h2 h), Rat.le_trans (mulRn h1 h) ha.2⟩
theorem in_mulI {a b : I2} {x y : Rat} (hx : In a x) (hy : In b y) : In (mulI a b) (x * y) := by
  have hc : ∀ v ∈ [a.1 * b.1, a.1 * b.2, a.2 * b.1, a.2 * b.2], In (mulI a b) v := hullL_in
  have c1 := hc (a.1 * b.1) (by simp)
  have c2 := hc (a.1 * b.2) (by simp)
  have c3 := hc (a.2 * b.1) (by simp)
  have c4 := hc (a.2 * b.2) (by simp)
  unfold In at *
  have k1 := lin hy.1 hy.2 (y := a.1) (m := (mulI a b).1) (n := (mulI a b).2) (by rw [Rat.mul_comm]; exact c1) (by rw [Rat.mul_comm]; exact c2)
  have k2 := lin hy.1 hy.2 (y := a.2) (m := (mulI a b).1) (n := (mulI a b).2) (by rw [Rat.mul_comm]; exact c3) (by rw [Rat.mul_comm]; exact c4)
  exact lin hx.1 hx.2 (by rw [Rat.mul_comm]; exact k1) (by rw [Rat.mul_comm]; exact k2)
theorem in_lo {a : I2} (h : a.1 ≤ a.2) : In a a.1 := ⟨Rat.le_refl, h⟩
theorem in_hi {a : I2} (h : a.1 ≤ a.2) : In a a.2 := ⟨h, Rat.le_refl⟩
theorem mulI_ends {a b : I2} (ha : a.1 ≤ a.2) (hb : b.1 ≤ b.2) : (∃ x y, In a x ∧ In b y ∧ (mulI a b).1 = x * y) ∧ (∃ x y, In a x ∧ In b y ∧ (mulI a b).2 = x * y) := by
  have key : ∀ v ∈ [a.1 * b.1, a.1 * b.2, a.2 * b.1, a.2 * b.2], ∃ x y, In a x ∧ In b y ∧ v = x * y := by
    intro v hv
    simp only [List.mem_cons, List.not_mem_nil, or_false] at hv
    rcases hv with h | h | h | h
    · exact ⟨_, _, in_lo ha, in_lo hb, h⟩
    · exact ⟨_, _, in_lo ha, in_hi hb, h⟩
    · exact ⟨_, _, in_hi ha, in_lo hb, h⟩
    · exact ⟨_, _, in_hi ha, in_hi hb, h⟩
  exact ⟨key _ (hullL_lo _ _), key _ (hullL_hi _ _)⟩
theorem mulI_le (a b : I2) : (mulI a b).1 ≤ (mulI a b).2 := hullL_inc _ _
theorem within_mul {a b c : I2} (ha : a.1 ≤ a.2) (hb : b.1 ≤ b.2) (h : withinI a c = true) : withinI (mulI a b) (mulI c b) = true := by
  obtain ⟨⟨x, y, hx, hy, e1⟩, ⟨u, v, hu, hv, e2⟩⟩ := mulI_ends ha hb
  refine withinI_of ?_ ?_
  · rw [e1]; exact in_mulI (hx.mono h) hy
  · rw [e2]; exact in_mulI (hu.mono h) hv
theorem within_add {a b c : I2} (h : withinI a c = true) : withinI (addI a b) (addI c b) = true := by
  have := withinI_iff.1 h
  refine withinI_iff.2 ?_
  unfold addI
  constructor <;> simp only <;> grind
theorem within_sub {a b c : I2} (h : withinI a c = true) : withinI (subI a b) (subI c b) = true := by
  have := withinI_iff.1 h
  refine withinI_iff.2 ?_
  unfold subI
  constructor <;> simp only <;> grind
theorem addI_le {a b : I2} (ha : a.1 ≤ a.2) (hb : b.1 ≤ b.2) : (addI a b).1 ≤ (addI a b).2 := by unfold addI; simp only; grind
theorem subI_le {a b : I2} (ha : a.1 ≤ a.2) (hb : b.1 ≤ b.2) : (subI a b).1 ≤ (subI a b).2 := by unfold subI; simp only; grind
theorem in_add {a b : I2} {x y : Rat} (hx : In a x) (hy : In b y) : In (addI a b) (x + y) := by
  unfold In addI at *; simp only; constructor <;> grind
theorem in_sub {a b : I2} {x y : Rat} (hx : In a x) (hy : In b y) : In (subI a b) (x - y) := by
  unfold In subI at *; simp only; constructor <;> grind
theorem sqI_ends {a : I2} (ha : a.1 ≤ a.2) : (∃ x, In a x ∧ (sqI a).1 = x * x) ∧ (∃ x, In a x ∧ (sqI a).2 = x * x) := by
  have key : ∀ v ∈ [a.1 * a.1, a.2 * a.2], ∃ x, In a x ∧ v = x * x := by
    intro v hv
    simp only [List.mem_cons, List.not_mem_nil, or_false] at hv
    rcases hv with h | h
    · exact ⟨_, in_lo ha, h⟩
    · exact ⟨_, in_hi ha, h⟩
  unfold sqI
  split
  · rename_i h
    exact ⟨⟨0, containsI_iff.1 h, by show (0 : Rat) = 0 * 0; rw [Rat.mul_zero]⟩, key _ (hullL_hi _ _)⟩
  · exact ⟨key _ (hullL_lo _ _), key _ (hullL_hi _ _)⟩
theorem sq_le {x y : Rat} (hx : 0 ≤ x) (h : x ≤ y) : x * x ≤ y * y := by
  have h1 := mulR h hx
  have h2 := mulR h (Rat.le_trans hx h)
  have h3 := Rat.mul_comm x y
  grind
theorem sq_le_neg {x y : Rat} (hx : x ≤ 0) (h : y ≤ x) : x * x ≤ y * y := by
  have := sq_le (x := -x) (y := -y) (by grind) (by grind)
  grind
theorem in_sqI {a : I2} {x : Rat} (hx : In a x) : In (sqI a) (x * x) := by
  have hc : ∀ v ∈ [a.1 * a.1, a.2 * a.2], In (hullL (a.1 * a.1) [a.2 * a.2]) v := hullL_in
  have c1 := hc (a.1 * a.1) (by simp)
  have c2 := hc (a.2 * a.2) (by simp)
  have hup : x * x ≤ (hullL (a.1 * a.1) [a.2 * a.2]).2 := by
    rcases Rat.le_total (a := 0) (b := x) with h | h
    · exact Rat.le_trans (sq_le h hx.2) c2.2
    · exact Rat.le_trans (sq_le_neg h hx.1) c1.2
  unfold sqI
  split
  · exact ⟨square_nonneg x, hup⟩
  · rename_i h
    refine ⟨?_, hup⟩
    have hn : ¬ In a 0 := fun hc => h (containsI_iff.2 hc)
    rcases Rat.le_total (a := 0) (b := a.1) with h0 | h0
    · exact Rat.le_trans c1.1 (sq_le h0 hx.1)
    · have h2 : a.2 ≤ 0 := by
        rcases Rat.le_total (a := a.2) (b := 0) with h3 | h3
        · exact h3
        · exact absurd ⟨h0, h3⟩ hn
      exact Rat.le_trans c2.1 (sq_le_neg h2 hx.2)
theorem sqI_le {a : I2} (ha : a.1 ≤ a.2) : (sqI a).1 ≤ (sqI a).2 := by
  obtain ⟨_, ⟨x, hx, e⟩⟩ := sqI_ends ha
  rw [e]; exact (in_sqI hx).1
theorem within_sq {a c : I2} (ha : a.1 ≤ a.2) (h : withinI a c = true) : withinI (sqI a) (sqI c) = true := by
  obtain ⟨⟨x, hx, e1⟩, ⟨u, hu, e2⟩⟩ := sqI_ends ha
  refine withinI_of ?_ ?_
  · rw [e1]; exact in_sqI (hx.mono h)
  · rw [e2]; exact in_sqI (hu.mono h)
theorem within_sq_mul {a : I2} (ha : a.1 ≤ a.2) : withinI (sqI a) (mulI a a) = true := by
  obtain ⟨⟨x, hx, e1⟩, ⟨u, hu, e2⟩⟩ := sqI_ends ha
  refine withinI_of ?_ ?_
  · rw [e1]; exact in_mulI hx hx
  · rw [e2]; exact in_mulI hu hu
theorem inv_anti {x y : Rat} (hx : 0 < x) (h : x ≤ y) : 1 / y ≤ 1 / x := by
  have hy : 0 < y := by grind
  have hxi : 0 < x⁻¹ := Rat.inv_pos.2 hx
  have hyi : 0 < y⁻¹ := Rat.inv_pos.2 hy
  have h1 := mulR (mulR h (Rat.le_of_lt hxi)) (Rat.le_of_lt hyi)
  have e1 : x * x⁻¹ = 1 := Rat.mul_inv_cancel x (Rat.ne_of_gt hx)
  have e2 : y * y⁻¹ = 1 := Rat.mul_inv_cancel y (Rat.ne_of_gt hy)
  rw [Rat.div_def, Rat.div_def, Rat.one_mul, Rat.one_mul]
  rw [e1, Rat.one_mul, Rat.mul_assoc, Rat.mul_comm x⁻¹, ← Rat.mul_assoc, e2, Rat.one_mul] at h1
  exact h1
theorem div_neg' (x : Rat) : 1 / (-x) = -(1 / x) := by
  rw [Rat.div_def, Rat.div_def, Rat.one_mul, Rat.one_mul]
  by_cases h : x = 0
  · rw [h]; simp
  · apply Rat.inv_eq_of_mul_eq_one
    have := Rat.mul_inv_cancel x h
    grind
theorem in_inv {b : I2} {y : Rat} (h0 : containsI b 0 = false) (hy : In b y) : y ≠ 0 ∧ In (1 / b.2, 1 / b.1) (1 / y) := by
  have hn : ¬ In b 0 := fun hc => by rw [containsI_iff.2 hc] at h0; exact absurd h0 (by decide)
  rcases Rat.le_total (a := b.1) (b := 0) with h | h
  · have h2 : b.2 < 0 := by
      rcases Rat.le_total (a := 0) (b := b.2) with h3 | h3
      · exact absurd ⟨h, h3⟩ hn
      · refine Rat.lt_of_le_of_ne h3 (fun e => hn ⟨h, by rw [e]; exact Rat.le_refl⟩)
    have hy0 : y < 0 := by have := hy.2; grind
    have k1 := inv_anti (x := -b.2) (y := -y) (by grind) (by have := hy.2; grind)
    have k2 := inv_anti (x := -y) (y := -b.1) (by grind) (by have := hy.1; grind)
    rw [div_neg', div_neg'] at k1 k2
    exact ⟨Rat.ne_of_lt hy0, by show 1 / b.2 ≤ 1 / y; grind, by show 1 / y ≤ 1 / b.1; grind⟩
  · have h1 : 0 < b.1 := by
      refine Rat.lt_of_le_of_ne h (fun e => hn ⟨by rw [← e]; exact Rat.le_refl, ?_⟩)
      exact Rat.le_trans h (Rat.le_trans hy.1 hy.2)
    have hy0 : 0 < y := by have := hy.1; grind
    exact ⟨Rat.ne_of_gt hy0, inv_anti hy0 hy.2, inv_anti h1 hy.1⟩
theorem in_div {a b : I2} {x y : Rat} (h0 : containsI b 0 = false) (hx : In a x) (hy : In b y) : In (divI a b) (x / y) := by
  have h := in_mulI hx (in_inv h0 hy).2
  rw [show x * (1 / y) = x / y by rw [Rat.div_def, Rat.div_def, Rat.one_mul]] at h
  exact h
theorem hullI_le (a b : I2) : (hullI a b).1 ≤ (hullI a b).2 := hullL_inc _ _
theorem within_hull (a b : I2) : withinI a (hullI a b) = true ∧ withinI b (hullI a b) = true := by
  have hc : ∀ v ∈ [a.1, a.2, b.1, b.2], In (hullI a b) v := hullL_in
  exact ⟨withinI_of (hc _ (by simp)) (hc _ (by simp)), withinI_of (hc _ (by simp)) (hc _ (by simp))⟩
theorem meetI_some {a b m : I2} (h : meetI a b = some m) : m.1 ≤ m.2 ∧ withinI m a = true ∧ withinI m b = true ∧ m = (maxQ a.1 b.1, minQ a.2 b.2) := by
  unfold meetI at h
  split at h
  · exact absurd h (by simp)
  · rename_i hh
    have e := (Option.some.inj h).symm
    subst e
    have h1 := maxQ_le a.1 b.1
    have h2 := minQ_le a.2 b.2
    exact ⟨Rat.not_lt.1 hh, withinI_iff.2 ⟨h1.1, h2.1⟩, withinI_iff.2 ⟨h1.2, h2.2⟩, rfl⟩
theorem meetI_iff (a b : I2) (v : Rat) : (containsI a v && containsI b v) = (match meetI a b with | none => false | some m => containsI m v) := by
  rw [Bool.eq_iff_iff, Bool.and_eq_true, containsI_iff, containsI_iff]
  have h1 := maxQ_le a.1 b.1
  have h2 := minQ_le a.2 b.2
  have e1 := maxQ_mem a.1 b.1
  have e2 := minQ_mem a.2 b.2
  cases hm : meetI a b with
  | none =>
    simp only [Bool.false_eq_true, iff_false]
    intro ⟨p, q⟩
    unfold meetI at hm
    split at hm
    · rename_i hh
      have k1 : maxQ a.1 b.1 ≤ v := by rcases e1 with e | e <;> rw [e]; exact p.1; exact q.1
      have k2 : v ≤ minQ a.2 b.2 := by rcases e2 with e | e <;> rw [e]; exact p.2; exact q.2
      exact absurd (Rat.le_trans k1 k2) (Rat.not_le.2 hh)
    · exact absurd hm (by simp)
  | some m =>
    have hs := meetI_some hm
    simp only
    rw [containsI_iff]
    constructor
    · intro ⟨p, q⟩
      rw [hs.2.2.2]
      exact ⟨by show maxQ a.1 b.1 ≤ v; rcases e1 with e | e <;> rw [e]; exact p.1; exact q.1, by show v ≤ minQ a.2 b.2; rcases e2 with e | e <;> rw [e]; exact p.2; exact q.2⟩
    · intro p
      exact ⟨p.mono hs.2.1, p.mono hs.2.2.1⟩
theorem sqI_zero {a : I2} (ha : a.1 ≤ a.2) : decide ((sqI a).1 = 0) = containsI a 0 := by
  cases hc : containsI a 0 with
  | true => unfold sqI; rw [hc]; simp
  | false =>
    rw [decide_eq_false_iff_not]
    intro h
    obtain ⟨⟨x, hx, e⟩, _⟩ := sqI_ends ha
    rw [e] at h
    have h0 : x = 0 := by rcases Rat.mul_eq_zero.1 h with h | h <;> exact h
    rw [h0] at hx
    rw [containsI_iff.2 hx] at hc
    exact absurd hc (by decide)
end Go.Vw

/-
  Square roots in intervals: what holds of the interval of a root. Conditions: as each says.
-/
set_option linter.unusedVariables false
set_option linter.unusedSimpArgs false
namespace Go.Vw
theorem twoQ_eq (n : Nat) : twoQ n = ((2 ^ n : Nat) : Rat) := rfl
theorem twoQ_pos (n : Nat) : 0 < twoQ n := by
  have h := twoQ_ne n
  have h2 : (0 : Rat) ≤ twoQ n := by
    rw [twoQ_eq]
    exact Rat.natCast_nonneg
  grind
theorem rt_self_le (m : Nat) : rt m ≤ m := rt_le (by rw [Nat.mul_add, Nat.add_mul]; have := Nat.zero_le (m * m); omega)
theorem two_len {n k : Nat} (h : n / 32 + 1 < k) : (limbs (2 ^ n)).length < k := by
  rw [← limbs_two n, List.length_set, List.length_replicate]; exact h
theorem okQ_two {n : Nat} (h : n ≤ 128) : okQ 10 (twoQ n) := by
  refine ⟨?_, ?_⟩
  · have e : (twoQ n).num.natAbs = 2 ^ n := by unfold twoQ; rw [Rat.num_intCast]; exact Int.natAbs_natCast _
    rw [e]
    exact two_len (by omega)
  · have e : (twoQ n).den = 1 := by unfold twoQ; exact Rat.den_intCast _
    rw [e, limbs_one]; decide
theorem rq_two (n : Nat) : rq (twoQ n) = (false, limbs (2 ^ n), []) := by
  have e : (twoQ n).num = ((2 ^ n : Nat) : Int) := by unfold twoQ; exact Rat.num_intCast _
  have e2 : (twoQ n).den = 1 := by unfold twoQ; exact Rat.den_intCast _
  unfold rq
  rw [e, e2, Int.natAbs_natCast, decide_eq_false (Int.not_lt.2 (Int.natCast_nonneg _))]
  rfl
theorem rq_natI (m : Nat) : rq (((m : Nat) : Int) : Rat) = (false, limbs m, []) := by
  unfold rq
  rw [Rat.num_intCast, Rat.den_intCast, Int.natAbs_natCast, decide_eq_false (by omega)]
  rfl
theorem okQ_natI {m k : Nat} (h : (limbs m).length < k) (hk : 1 < k) : okQ k (((m : Nat) : Int) : Rat) := by
  refine ⟨?_, ?_⟩
  · rw [Rat.num_intCast, Int.natAbs_natCast]; exact h
  · rw [Rat.den_intCast, limbs_one]; exact hk
theorem floor_len {q : Rat} {k : Nat} (h : okQ k q) : (limbs q.floor.natAbs).length < k := by
  rw [Rat.floor_def]
  exact Nat.lt_of_le_of_lt (limbs_len_mono (Int.natAbs_ediv_le_natAbs _ _)) h.1
theorem rootN_len {v : Rat} {n k : Nat} (h : okQ k v) (hn : n ≤ 128) : (limbs (rootN v n)).length < k + 20 := by
  unfold rootN
  exact Nat.lt_of_le_of_lt (limbs_len_mono (rt_self_le _)) (floor_len (h.mul ((okQ_two hn).mul (okQ_two hn))))
theorem mulL {a b c : Rat} (h : a ≤ b) (hc : 0 ≤ c) : c * a ≤ c * b := Rat.mul_le_mul_of_nonneg_left h hc
theorem div_mul_cancel' {a b : Rat} (h : b ≠ 0) : a / b * b = a := by rw [Rat.div_def, Rat.mul_assoc, Rat.inv_mul_cancel b h, Rat.mul_one]
theorem root_spec {v : Rat} (hv : 0 ≤ v) (n : Nat) : 0 ≤ rootLo v n ∧ rootLo v n * rootLo v n ≤ v ∧ v < (rootLo v n + 1 / twoQ n) * (rootLo v n + 1 / twoQ n) := by
  have ht := twoQ_pos n
  have hne := twoQ_ne n
  have h0 : (0 : Rat) ≤ v * (twoQ n * twoQ n) := Rat.mul_nonneg hv (Rat.mul_nonneg (Rat.le_of_lt ht) (Rat.le_of_lt ht))
  have f1 := Rat.floor_le (v * (twoQ n * twoQ n))
  have f2 := Rat.lt_floor_add_one (v * (twoQ n * twoQ n))
  rw [Rat.intCast_add] at f2
  have f0 : 0 ≤ (v * (twoQ n * twoQ n)).floor := Rat.le_floor_iff.2 h0
  have hi := rootHi_eq v n
  unfold rootLo rootN at *
  generalize (v * (twoQ n * twoQ n)).floor = f at *
  obtain ⟨m, rfl⟩ := Int.eq_ofNat_of_zero_le f0
  rw [Int.natAbs_natCast] at *
  have hs := rt_spec m
  generalize rt m = r at *
  generalize twoQ n = t at *
  have s1 : ((r : Nat) : Rat) * ((r : Nat) : Rat) ≤ ((m : Nat) : Rat) := by rw [← Rat.natCast_mul]; exact Rat.natCast_le_natCast.2 hs.1
  have s2 : ((m : Nat) : Rat) + 1 ≤ (((r : Nat) : Rat) + 1) * (((r : Nat) : Rat) + 1) := by
    have : ((m + 1 : Nat) : Rat) ≤ (((r + 1) * (r + 1) : Nat) : Rat) := Rat.natCast_le_natCast.2 hs.2
    rw [Rat.natCast_mul, Rat.natCast_add, Rat.natCast_add] at this
    exact this
  have s0 : (0 : Rat) ≤ ((r : Nat) : Rat) := Rat.natCast_nonneg
  rw [Rat.intCast_natCast] at *
  generalize ((r : Nat) : Rat) = x at *
  generalize ((m : Nat) : Rat) = y at *
  have e1 : x / t * t = x := div_mul_cancel' hne
  have e2 : 1 / t * t = 1 := div_mul_cancel' hne
  have tt : 0 < t * t := Rat.mul_pos ht ht
  generalize x / t = a at *
  generalize 1 / t = e at *
  have q1 : (a * a) * (t * t) = x * x := by rw [← e1]; grind
  have q2 : ((a + e) * (a + e)) * (t * t) = (x + 1) * (x + 1) := by rw [← e1, ← e2]; grind
  have f2' : v * (t * t) < y + 1 := f2
  refine ⟨?_, ?_, ?_⟩
  · refine Rat.le_of_mul_le_mul_right (c := t) ?_ ht
    rw [e1, Rat.zero_mul]; exact s0
  · refine Rat.le_of_mul_le_mul_right (c := t * t) ?_ tt
    rw [q1]; exact Rat.le_trans s1 f1
  · refine Rat.lt_of_mul_lt_mul_right (c := t * t) ?_ (Rat.le_of_lt tt)
    rw [q2]; grind
theorem rootI_le {v : Rat} (n : Nat) : (rootI v n).1 ≤ (rootI v n).2 := by
  unfold rootI
  split
  · exact Rat.le_refl
  · have ht := twoQ_pos n
    have : 0 ≤ 1 / twoQ n := by rw [Rat.div_def, Rat.one_mul]; exact Rat.le_of_lt (Rat.inv_pos.2 ht)
    show rootLo v n ≤ rootLo v n + 1 / twoQ n
    grind
theorem rootI_spec {v : Rat} (hv : 0 ≤ v) (n : Nat) : 0 ≤ (rootI v n).1 ∧ containsI (sqI (rootI v n)) v = true ∧ (((rootI v n).2 - (rootI v n).1) * twoQ n = 0 → (rootI v n).1 * (rootI v n).1 = v) ∧ (((rootI v n).2 - (rootI v n).1) * twoQ n ≠ 0 → ((rootI v n).2 - (rootI v n).1) * twoQ n = 1 ∧ v < (rootI v n).2 * (rootI v n).2 ∧ (rootI v n).1 * (rootI v n).1 < v) := by
  obtain ⟨h0, h1, h2⟩ := root_spec hv n
  have hle := rootI_le (v := v) n
  have ht := twoQ_pos n
  have hne := twoQ_ne n
  have c1 := in_sqI (in_lo hle)
  have c2 := in_sqI (in_hi hle)
  have e2 : 1 / twoQ n * twoQ n = 1 := div_mul_cancel' hne
  unfold rootI at *
  split
  · rename_i h
    rw [if_pos h] at *
    simp only at *
    refine ⟨h0, ?_, fun _ => h, fun hc => ?_⟩
    · rw [h] at c1; exact containsI_iff.2 c1
    · exact absurd (by grind) hc
  · rename_i h
    rw [if_neg h] at *
    simp only at *
    have hlt : rootLo v n * rootLo v n < v := Rat.lt_of_le_of_ne h1 h
    have ew : (rootLo v n + 1 / twoQ n - rootLo v n) * twoQ n = 1 := by rw [← e2]; grind
    refine ⟨h0, containsI_iff.2 ⟨Rat.le_trans c1.1 (Rat.le_of_lt hlt), Rat.le_trans (Rat.le_of_lt h2) c2.2⟩, fun hc => ?_, fun _ => ⟨ew, h2, hlt⟩⟩
    rw [ew] at hc
    exact absurd hc (by decide)
end Go.Vw

/-
  A variable's data in another form; reading a literal as a list. Conditions: as each says.
-/
set_option linter.unusedVariables false
set_option linter.unusedSimpArgs false
namespace Go.Vw
theorem awp_cast {X : Ctx} {c : Code} {Q : Exit → St → Prop} {s : St} (t : Nat) {x : D} (y : D) (ht : s.tmps t = .d x) (hle : LeD x y) (h : awp X c Q (s.put (some t) (.d y))) : awp X c Q s := fun io F a w hs => by
  refine h io F a w ⟨hs.kept, fun u => ?_, hs.nt, hs.df, hs.bl, hs.inj, hs.ff, hs.f0, hs.st⟩
  rw [put_keys]
  simp only [St.put]
  cases hb : Nat.beq u t with
  | true =>
    have := Nat.eq_of_beq_eq_true hb
    subst this
    have hv := hs.tm u
    rw [ht] at hv
    simp only [cond_true, VR] at hv ⊢
    exact hle F w _ hv
  | false => simpa using hs.tm u
end Go.Vw

set_option linter.unusedVariables false
set_option linter.unusedSimpArgs false
namespace Go.Proofs.Ytjjefhbceoeibaa
open Go.Vw
attribute [local irreducible] awp awpL awpR

end Go.Proofs.Ytjjefhbceoeibaa

set_option linter.unusedVariables false
set_option linter.unusedSimpArgs false
namespace Go.Proofs.Ytjjefhbceoeibaa
open Go.Vw
attribute [local irreducible] awp awpL awpR

theorem rational_FromIntQ (v : Int) (h1 : -9223372036854775808 ≤ v) (h2 : v < 9223372036854775808) : Ret Try.prog 29 [.int .i64 v] (· = qD (v : Rat)) := by
  have := rational_FromInt v h1 h2
  rw [← rq_int] at this
  exact this
theorem interval_number (x : R3) (h : RatOk x 1000000) : Ret Try.prog 28 [rD x] (· = qD (rv x)) := by
  have a := rational_Add x r0 h (ok_r0 (by decide))
  rw [rv_r0, Rat.add_zero] at a
  refine ret_of_awp tab Try.func28 rfl rfl (Nat.le_of_ble_eq_true rfl) (fun w0 F0 => ?_)
  repeat' (first
    | (show awpL _ _ _ _ _; first | refine goL ?_ | refine cl 30 tt rfl rfl rfl (hr := a) (k := ?_) | (refine gdLD rfl rfl (fun _ => ?_) (fun _ => ?_) <;> try (exfalso; omega)) | (refine gdLN rfl rfl (fun _ => ?_) (fun _ => ?_) <;> try (exfalso; omega)) | refine gdL rfl rfl (fun _ => ?_) (fun _ => ?_))
    | (show awp _ _ _ _; first | refine goA ?_ | (refine awp_condD rfl (fun _ => ?_) (fun _ => ?_) <;> try (exfalso; omega)) | (refine awp_condN rfl (fun _ => ?_) (fun _ => ?_) <;> try (exfalso; omega)) | refine awp_cond rfl (fun _ => ?_) (fun _ => ?_))
    | (show andThen _ _ _ _; first | refine goN ?_)
    | (show inBlock _ _ _ _; first | refine goB ?_)
    | (show awpR _ _ _ _ _ _; first | refine goR ?_ | refine clR 30 tt rfl rfl rfl (hr := a) (k := ?_) | (refine gdRD rfl rfl (fun _ => ?_) (fun _ => ?_) <;> try (exfalso; omega)) | (refine gdRN rfl rfl (fun _ => ?_) (fun _ => ?_) <;> try (exfalso; omega)) | refine gdR rfl rfl (fun _ => ?_) (fun _ => ?_))
    | (show retPost _ _ _ _ _; first | refine finF true rfl rfl sc ?_ | refine finF false rfl rfl sc ?_ | refine finC false rfl rfl sc sc ?_ | refine finN rfl rfl sc ?_ | refine finL true rfl rfl sc rfl (LeR.cons rfl leL LeR.nil) ?_ | refine finE true rfl rfl sc ?_ | refine finE false rfl rfl sc ?_))
  rfl
theorem interval_numberQ (x : Rat) (h : okQ 1000000 x) : Ret Try.prog 28 [qD x] (· = qD x) := by
  have := interval_number (rq x) (ok_rq h)
  rw [rv_rq] at this
  exact this
theorem interval_value (a b : R3) (ha : RatOk a 50000) (hb : RatOk b 50000) : Ret Try.prog 18 [iD a b] (· = iQ (takeI (rv a) (rv b))) := by
  have h1 := interval_number a (ha.up (by decide))
  have h2 := interval_number b (hb.up (by decide))
  have hc := rational_CompareQ (rv a) (rv b) ((okQ_rv ha (by decide)).mono (by decide)) ((okQ_rv hb (by decide)).mono (by decide))
  have hp := cmpQ_pos (rv a) (rv b)
  generalize rv a = x at *
  generalize rv b = y at *
  obtain ⟨c, hcc⟩ : ∃ c, cmpQ x y = c := ⟨_, rfl⟩
  rw [hcc] at hc hp
  unfold takeI
  by_cases h : y < x
  · have hk := hp.2 h
    clear hp
    rw [if_pos h]
    unfold iQ
    rw [rq_zero]
    refine ret_of_awp tab Try.func18 rfl rfl (Nat.le_of_ble_eq_true rfl) (fun w0 F0 => ?_)
    repeat' (first
      | (show awpL _ _ _ _ _; first | refine goL ?_ | refine cl 28 tt rfl rfl rfl (hr := h1) (k := ?_) | refine cl 28 tt rfl rfl rfl (hr := h2) (k := ?_) | refine cl 19 tt rfl rfl rfl (hr := hc) (k := ?_) | (refine gdLD rfl rfl (fun _ => ?_) (fun _ => ?_) <;> try (exfalso; omega)) | (refine gdLN rfl rfl (fun _ => ?_) (fun _ => ?_) <;> try (exfalso; omega)) | refine gdL rfl rfl (fun _ => ?_) (fun _ => ?_))
      | (show awp _ _ _ _; first | refine goA ?_ | refine awp_reg 1 5 mixed (by kernel_rfl) (by kernel_rfl) ?_ | (refine awp_condD rfl (fun _ => ?_) (fun _ => ?_) <;> try (exfalso; omega)) | (refine awp_condN rfl (fun _ => ?_) (fun _ => ?_) <;> try (exfalso; omega)) | refine awp_cond rfl (fun _ => ?_) (fun _ => ?_))
      | (show andThen _ _ _ _; first | refine goN ?_)
      | (show inBlock _ _ _ _; first | refine goB ?_)
      | (show awpR _ _ _ _ _ _; first | refine goR ?_ | refine clR 28 tt rfl rfl rfl (hr := h1) (k := ?_) | refine clR 28 tt rfl rfl rfl (hr := h2) (k := ?_) | refine clR 19 tt rfl rfl rfl (hr := hc) (k := ?_) | (refine gdRD rfl rfl (fun _ => ?_) (fun _ => ?_) <;> try (exfalso; omega)) | (refine gdRN rfl rfl (fun _ => ?_) (fun _ => ?_) <;> try (exfalso; omega)) | refine gdR rfl rfl (fun _ => ?_) (fun _ => ?_))
      | (show retPost _ _ _ _ _; first | refine finF true rfl rfl sc ?_ | refine finF false rfl rfl sc ?_ | refine finC false rfl rfl sc sc ?_ | refine finN rfl rfl sc ?_ | refine finL true rfl rfl sc rfl (LeR.cons rfl leL LeR.nil) ?_ | refine finA true rfl rfl sc ?_ | refine finA false rfl rfl sc ?_ | refine finE true rfl rfl sc ?_ | refine finE false rfl rfl sc ?_))
    exact leL
  · have hk := mt hp.1 h
    clear hp
    rw [if_neg h]
    refine ret_of_awp tab Try.func18 rfl rfl (Nat.le_of_ble_eq_true rfl) (fun w0 F0 => ?_)
    repeat' (first
      | (show awpL _ _ _ _ _; first | refine goL ?_ | refine cl 28 tt rfl rfl rfl (hr := h1) (k := ?_) | refine cl 28 tt rfl rfl rfl (hr := h2) (k := ?_) | refine cl 19 tt rfl rfl rfl (hr := hc) (k := ?_) | (refine gdLD rfl rfl (fun _ => ?_) (fun _ => ?_) <;> try (exfalso; omega)) | (refine gdLN rfl rfl (fun _ => ?_) (fun _ => ?_) <;> try (exfalso; omega)) | refine gdL rfl rfl (fun _ => ?_) (fun _ => ?_))
      | (show awp _ _ _ _; first | refine goA ?_ | refine awp_reg 1 5 mixed (by kernel_rfl) (by kernel_rfl) ?_ | (refine awp_condD rfl (fun _ => ?_) (fun _ => ?_) <;> try (exfalso; omega)) | (refine awp_condN rfl (fun _ => ?_) (fun _ => ?_) <;> try (exfalso; omega)) | refine awp_cond rfl (fun _ => ?_) (fun _ => ?_))
      | (show andThen _ _ _ _; first | refine goN ?_)
      | (show inBlock _ _ _ _; first | refine goB ?_)
      | (show awpR _ _ _ _ _ _; first | refine goR ?_ | refine clR 28 tt rfl rfl rfl (hr := h1) (k := ?_) | refine clR 28 tt rfl rfl rfl (hr := h2) (k := ?_) | refine clR 19 tt rfl rfl rfl (hr := hc) (k := ?_) | (refine gdRD rfl rfl (fun _ => ?_) (fun _ => ?_) <;> try (exfalso; omega)) | (refine gdRN rfl rfl (fun _ => ?_) (fun _ => ?_) <;> try (exfalso; omega)) | refine gdR rfl rfl (fun _ => ?_) (fun _ => ?_))
      | (show retPost _ _ _ _ _; first | refine finF true rfl rfl sc ?_ | refine finF false rfl rfl sc ?_ | refine finC false rfl rfl sc sc ?_ | refine finN rfl rfl sc ?_ | refine finL true rfl rfl sc rfl (LeR.cons rfl leL LeR.nil) ?_ | refine finE true rfl rfl sc ?_ | refine finE false rfl rfl sc ?_))
    rfl
theorem interval_valueQ (i : I2) (hle : i.1 ≤ i.2) (hi : okI 50000 i) : Ret Try.prog 18 [iQ i] (· = iQ i) := by
  have := interval_value (rq i.1) (rq i.2) (ok_rq hi.1) (ok_rq hi.2)
  rw [rv_rq, rv_rq, takeI_of hle] at this
  exact this
theorem interval_Make (a b : R3) (ha : RatOk a 50000) (hb : RatOk b 50000) : Ret Try.prog 20 [rD a, rD b] (· = if rv b < rv a then .tup [iD r0 r0, .int .i64 1] else .tup [iQ (rv a, rv b), .int .i64 0]) := by
  have h1 := interval_number a (ha.up (by decide))
  have h2 := interval_number b (hb.up (by decide))
  have hc := rational_Compare a b (ha.up (by decide)) (hb.up (by decide))
  have hp := cmpQ_pos (rv a) (rv b)
  obtain ⟨c, hcc⟩ : ∃ c, cmpQ (rv a) (rv b) = c := ⟨_, rfl⟩
  rw [hcc] at hc hp
  by_cases h : rv b < rv a
  · have hk := hp.2 h
    clear hp
    rw [if_pos h]
    refine ret_of_awp tab Try.func20 rfl rfl (Nat.le_of_ble_eq_true rfl) (fun w0 F0 => ?_)
    repeat' (first
      | (show awpL _ _ _ _ _; first | refine goL ?_ | refine cl 19 tt rfl rfl rfl (hr := hc) (k := ?_) | (refine gdLD rfl rfl (fun _ => ?_) (fun _ => ?_) <;> try (exfalso; omega)) | (refine gdLN rfl rfl (fun _ => ?_) (fun _ => ?_) <;> try (exfalso; omega)) | refine gdL rfl rfl (fun _ => ?_) (fun _ => ?_))
      | (show awp _ _ _ _; first | refine goA ?_ | refine awp_reg 3 3 mixed (by kernel_rfl) (by kernel_rfl) ?_ | (refine awp_condD rfl (fun _ => ?_) (fun _ => ?_) <;> try (exfalso; omega)) | (refine awp_condN rfl (fun _ => ?_) (fun _ => ?_) <;> try (exfalso; omega)) | refine awp_cond rfl (fun _ => ?_) (fun _ => ?_))
      | (show andThen _ _ _ _; first | refine goN ?_)
      | (show inBlock _ _ _ _; first | refine goB ?_)
      | (show awpR _ _ _ _ _ _; first | refine goR ?_ | refine clR 19 tt rfl rfl rfl (hr := hc) (k := ?_) | (refine gdRD rfl rfl (fun _ => ?_) (fun _ => ?_) <;> try (exfalso; omega)) | (refine gdRN rfl rfl (fun _ => ?_) (fun _ => ?_) <;> try (exfalso; omega)) | refine gdR rfl rfl (fun _ => ?_) (fun _ => ?_))
      | (show retPost _ _ _ _ _; first | refine finF true rfl rfl sc ?_ | refine finF false rfl rfl sc ?_ | refine finC false rfl rfl sc sc ?_ | refine finN rfl rfl sc ?_ | refine finL true rfl rfl sc rfl (LeR.cons rfl leL LeR.nil) ?_ | refine finT true rfl rfl sc ?_ | refine finT false rfl rfl sc ?_ | refine finE true rfl rfl sc ?_ | refine finE false rfl rfl sc ?_))
    exact leT
  · have hk := mt hp.1 h
    clear hp
    rw [if_neg h]
    refine ret_of_awp tab Try.func20 rfl rfl (Nat.le_of_ble_eq_true rfl) (fun w0 F0 => ?_)
    repeat' (first
      | (show awpL _ _ _ _ _; first | refine goL ?_ | refine cl 28 tt rfl rfl rfl (hr := h1) (k := ?_) | refine cl 28 tt rfl rfl rfl (hr := h2) (k := ?_) | refine cl 19 tt rfl rfl rfl (hr := hc) (k := ?_) | (refine gdLD rfl rfl (fun _ => ?_) (fun _ => ?_) <;> try (exfalso; omega)) | (refine gdLN rfl rfl (fun _ => ?_) (fun _ => ?_) <;> try (exfalso; omega)) | refine gdL rfl rfl (fun _ => ?_) (fun _ => ?_))
      | (show awp _ _ _ _; first | refine goA ?_ | refine awp_reg 3 3 mixed (by kernel_rfl) (by kernel_rfl) ?_ | (refine awp_condD rfl (fun _ => ?_) (fun _ => ?_) <;> try (exfalso; omega)) | (refine awp_condN rfl (fun _ => ?_) (fun _ => ?_) <;> try (exfalso; omega)) | refine awp_cond rfl (fun _ => ?_) (fun _ => ?_))
      | (show andThen _ _ _ _; first | refine goN ?_)
      | (show inBlock _ _ _ _; first | refine goB ?_)
      | (show awpR _ _ _ _ _ _; first | refine goR ?_ | refine clR 28 tt rfl rfl rfl (hr := h1) (k := ?_) | refine clR 28 tt rfl rfl rfl (hr := h2) (k := ?_) | refine clR 19 tt rfl rfl rfl (hr := hc) (k := ?_) | (refine gdRD rfl rfl (fun _ => ?_) (fun _ => ?_) <;> try (exfalso; omega)) | (refine gdRN rfl rfl (fun _ => ?_) (fun _ => ?_) <;> try (exfalso; omega)) | refine gdR rfl rfl (fun _ => ?_) (fun _ => ?_))
      | (show retPost _ _ _ _ _; first | refine finF true rfl rfl sc ?_ | refine finF false rfl rfl sc ?_ | refine finC false rfl rfl sc sc ?_ | refine finN rfl rfl sc ?_ | refine finL true rfl rfl sc rfl (LeR.cons rfl leL LeR.nil) ?_ | refine finE true rfl rfl sc ?_ | refine finE false rfl rfl sc ?_))
    rfl
theorem interval_Contains (a b v : R3) (ha : RatOk a 50000) (hb : RatOk b 50000) (hv : RatOk v 50000) : Ret Try.prog 9 [iD a b, rD v] (· = .bool (containsI (takeI (rv a) (rv b)) (rv v))) := by
  have t1 := interval_value a b ha hb
  have o1 := takeI_ok (okQ_rv ha (by decide)) (okQ_rv hb (by decide)) (by decide)
  generalize takeI (rv a) (rv b) = i at *
  obtain ⟨p, q⟩ := i
  obtain ⟨op, oq⟩ := o1
  have h1 := rational_Compare (rq p) v (ok_rq (op.mono (by decide))) (hv.up (by decide))
  have h2 := rational_Compare v (rq q) (hv.up (by decide)) (ok_rq (oq.mono (by decide)))
  rw [rv_rq] at h1 h2
  have p1 := cmpQ_pos p (rv v)
  have p2 := cmpQ_pos (rv v) q
  obtain ⟨c, hc⟩ : ∃ c, cmpQ p (rv v) = c := ⟨_, rfl⟩
  obtain ⟨d, hd⟩ : ∃ d, cmpQ (rv v) q = d := ⟨_, rfl⟩
  rw [hc] at h1 p1
  rw [hd] at h2 p2
  unfold containsI
  simp only
  rw [show decide (p ≤ rv v) = decide (c ≤ 0) by refine decide_eq_decide.2 ?_; rw [← Rat.not_lt, ← Int.not_lt, p1], show decide (rv v ≤ q) = decide (d ≤ 0) by refine decide_eq_decide.2 ?_; rw [← Rat.not_lt, ← Int.not_lt, p2]]
  clear hc hd p1 p2
  refine ret_of_awp tab Try.func9 rfl rfl (Nat.le_of_ble_eq_true rfl) (fun w0 F0 => ?_)
  repeat' (first
    | (show awpL _ _ _ _ _; first | refine goL ?_ | refine cl 18 tt rfl rfl rfl (hr := t1) (k := ?_) | refine cl 19 tt rfl rfl rfl (hr := h1) (k := ?_) | refine cl 19 tt rfl rfl rfl (hr := h2) (k := ?_) | (refine gdLD rfl rfl (fun _ => ?_) (fun _ => ?_) <;> try (exfalso; omega)) | (refine gdLN rfl rfl (fun _ => ?_) (fun _ => ?_) <;> try (exfalso; omega)) | refine gdL rfl rfl (fun _ => ?_) (fun _ => ?_))
    | (show awp _ _ _ _; first | refine goA ?_ | (refine awp_condD rfl (fun _ => ?_) (fun _ => ?_) <;> try (exfalso; omega)) | (refine awp_condN rfl (fun _ => ?_) (fun _ => ?_) <;> try (exfalso; omega)) | refine awp_cond rfl (fun _ => ?_) (fun _ => ?_))
    | (show andThen _ _ _ _; first | refine goN ?_)
    | (show inBlock _ _ _ _; first | refine goB ?_)
    | (show awpR _ _ _ _ _ _; first | refine goR ?_ | refine clR 18 tt rfl rfl rfl (hr := t1) (k := ?_) | refine clR 19 tt rfl rfl rfl (hr := h1) (k := ?_) | refine clR 19 tt rfl rfl rfl (hr := h2) (k := ?_) | (refine gdRD rfl rfl (fun _ => ?_) (fun _ => ?_) <;> try (exfalso; omega)) | (refine gdRN rfl rfl (fun _ => ?_) (fun _ => ?_) <;> try (exfalso; omega)) | refine gdR rfl rfl (fun _ => ?_) (fun _ => ?_))
    | (show retPost _ _ _ _ _; first | refine finF true rfl rfl sc ?_ | refine finF false rfl rfl sc ?_ | refine finC false rfl rfl sc sc ?_ | refine finN rfl rfl sc ?_ | refine finL true rfl rfl sc rfl (LeR.cons rfl leL LeR.nil) ?_ | refine finE true rfl rfl sc ?_ | refine finE false rfl rfl sc ?_))
  all_goals first | rfl | (rename_i hc; simp [hc])
theorem interval_ContainsI (i : I2) (hle : i.1 ≤ i.2) (hi : okI 50000 i) (v : R3) (hv : RatOk v 50000) : Ret Try.prog 9 [iQ i, rD v] (· = .bool (containsI i (rv v))) := by
  have := interval_Contains (rq i.1) (rq i.2) v (ok_rq hi.1) (ok_rq hi.2) hv
  rw [rv_rq, rv_rq, takeI_of hle] at this
  exact this
end Go.Proofs.Ytjjefhbceoeibaa

set_option linter.unusedVariables false
set_option linter.unusedSimpArgs false
set_option maxHeartbeats 4000000
namespace Go.Proofs.Ytjjefhbceoeibaa
open Go.Vw
attribute [local irreducible] awp awpL awpR

theorem interval_hull (x : Rat) (l : List Rat) (hl : l.length < 1000000) (h : ∀ q ∈ x :: l, okQ 200000 q) : Ret Try.prog 21 [qD x, qsD l] (· = iQ (hullL x l)) := by
  have hx : okQ 200000 x := h x (List.mem_cons_self ..)
  have h' : ∀ q ∈ l, okQ 200000 q := fun q hq => h q (List.mem_cons_of_mem _ hq)
  refine ret_of_awp tab Try.func21 rfl rfl (Nat.le_of_ble_eq_true rfl) (fun w0 F0 => ?_)
  repeat' (first
    | (show awpL _ _ _ _ _; first | refine goL ?_ | (refine gdLD rfl rfl (fun _ => ?_) (fun _ => ?_) <;> try (exfalso; omega)) | (refine gdLN rfl rfl (fun _ => ?_) (fun _ => ?_) <;> try (exfalso; omega)) | refine gdL rfl rfl (fun _ => ?_) (fun _ => ?_))
    | (show awp _ _ _ _; first | refine goA ?_ | refine awp_reg 10 5 mixed (by kernel_rfl) (by kernel_rfl) ?_ | (refine awp_condD rfl (fun _ => ?_) (fun _ => ?_) <;> try (exfalso; omega)) | (refine awp_condN rfl (fun _ => ?_) (fun _ => ?_) <;> try (exfalso; omega)) | refine awp_cond rfl (fun _ => ?_) (fun _ => ?_))
    | (show andThen _ _ _ _; first | refine goN ?_)
    | (show inBlock _ _ _ _; first | refine goB ?_)
    | (show awpR _ _ _ _ _ _; first | refine goR ?_ | (refine gdRD rfl rfl (fun _ => ?_) (fun _ => ?_) <;> try (exfalso; omega)) | (refine gdRN rfl rfl (fun _ => ?_) (fun _ => ?_) <;> try (exfalso; omega)) | refine gdR rfl rfl (fun _ => ?_) (fun _ => ?_))
    | (show retPost _ _ _ _ _; first | refine finF true rfl rfl sc ?_ | refine finF false rfl rfl sc ?_ | refine finC false rfl rfl sc sc ?_ | refine finN rfl rfl sc ?_ | refine finL true rfl rfl sc rfl (LeR.cons rfl leL LeR.nil) ?_ | refine finE true rfl rfl sc ?_ | refine finE false rfl rfl sc ?_))
  refine awp_loop1 (fun (i : Nat) => ([(11, .d (qsD l)), (12, .d (.int .i64 l.length)), (13, .d (.int .i64 i)), (4, .ptr 4 0), (5, .ptr 5 0)], [(4, .box 28 zI), (5, .box 28 ((iC (rq ((l.take i).foldl minQ x)) (rq ((l.take i).foldl maxQ x))).map V.d))])) (fun i => i ≤ l.length) (fun i => l.length - i) 0 (by omega) ?_ ?_ (fun i hi => ?_)
  · exact ⟨rfl, rfl, rfl, rfl, rfl, rfl⟩
  · exact ⟨rfl, rfl, trivial⟩
  by_cases h3 : i < l.length
  · have hk := take_ok (k := 200000) hx h' i
    have hg := getD_ok h' h3
    have e1 := foldl_take minQ x l h3
    have e2 := foldl_take maxQ x l h3
    obtain ⟨y, hy⟩ : ∃ y, l.getD i 0 = y := ⟨_, rfl⟩
    rw [hy] at e1 e2 hg
    obtain ⟨m, hm⟩ : ∃ m, (l.take i).foldl minQ x = m := ⟨_, rfl⟩
    obtain ⟨n, hn⟩ : ∃ n, (l.take i).foldl maxQ x = n := ⟨_, rfl⟩
    rw [hm] at e1
    rw [hn] at e2
    have hk1 := hk.1
    have hk2 := hk.2
    rw [hm] at hk1
    rw [hn] at hk2
    rw [hm, hn]
    have c1 := rational_CompareQ y m (hg.mono (by decide)) (hk1.mono (by decide))
    have c2 := rational_CompareQ y n (hg.mono (by decide)) (hk2.mono (by decide))
    have p1 := cmpQ_neg y m
    have p2 := cmpQ_pos y n
    obtain ⟨u, hu⟩ : ∃ u, cmpQ y m = u := ⟨_, rfl⟩
    obtain ⟨v, hv⟩ : ∃ v, cmpQ y n = v := ⟨_, rfl⟩
    rw [hu] at c1 p1
    rw [hv] at c2 p2
    rw [← hy] at c1 c2
    rw [show minQ m y = if y < m then y else m from rfl] at e1
    rw [show maxQ n y = if n < y then y else n from rfl] at e2
    by_cases b1 : y < m
    · have u1 := p1.2 b1
      rw [if_pos b1] at e1
      by_cases b2 : n < y
      · have v1 := p2.2 b2
        rw [if_pos b2] at e2
        clear p1 p2 hk hm hn
        repeat' (first
          | (show awpL _ _ _ _ _; first | refine goL ?_ | refine cl 19 tt rfl rfl rfl (hr := c1) (k := ?_) | refine cl 19 tt rfl rfl rfl (hr := c2) (k := ?_) | (refine gdLD rfl rfl (fun _ => ?_) (fun _ => ?_) <;> try (exfalso; omega)) | (refine gdLN rfl rfl (fun _ => ?_) (fun _ => ?_) <;> try (exfalso; omega)) | refine gdL rfl rfl (fun _ => ?_) (fun _ => ?_))
          | (show awp _ _ _ _; first | refine goA ?_ | refine awp_reg 10 5 mixed (by kernel_rfl) (by kernel_rfl) ?_ | (refine awp_condD rfl (fun _ => ?_) (fun _ => ?_) <;> try (exfalso; omega)) | (refine awp_condN rfl (fun _ => ?_) (fun _ => ?_) <;> try (exfalso; omega)) | refine awp_cond rfl (fun _ => ?_) (fun _ => ?_))
          | (show andThen _ _ _ _; first | refine goN ?_)
          | (show inBlock _ _ _ _; first | refine goB ?_)
          | (show awpR _ _ _ _ _ _; first | refine goR ?_ | refine clR 19 tt rfl rfl rfl (hr := c1) (k := ?_) | refine clR 19 tt rfl rfl rfl (hr := c2) (k := ?_) | (refine gdRD rfl rfl (fun _ => ?_) (fun _ => ?_) <;> try (exfalso; omega)) | (refine gdRN rfl rfl (fun _ => ?_) (fun _ => ?_) <;> try (exfalso; omega)) | refine gdR rfl rfl (fun _ => ?_) (fun _ => ?_))
          | (show retPost _ _ _ _ _; first | refine finF true rfl rfl sc ?_ | refine finF false rfl rfl sc ?_ | refine finC false rfl rfl sc sc ?_ | refine finN rfl rfl sc ?_ | refine finL true rfl rfl sc rfl (LeR.cons rfl leL LeR.nil) ?_ | refine finE true rfl rfl sc ?_ | refine finE false rfl rfl sc ?_))
        exact ⟨i + 1, by omega, by omega, ⟨rfl, rfl, iv (by omega), rfl, rfl, rfl⟩, rfl, by rw [e1, e2, ← hy]; rfl, trivial⟩
      · have v1 := mt p2.1 b2
        rw [if_neg b2] at e2
        clear p1 p2 hk hm hn
        repeat' (first
          | (show awpL _ _ _ _ _; first | refine goL ?_ | refine cl 19 tt rfl rfl rfl (hr := c1) (k := ?_) | refine cl 19 tt rfl rfl rfl (hr := c2) (k := ?_) | (refine gdLD rfl rfl (fun _ => ?_) (fun _ => ?_) <;> try (exfalso; omega)) | (refine gdLN rfl rfl (fun _ => ?_) (fun _ => ?_) <;> try (exfalso; omega)) | refine gdL rfl rfl (fun _ => ?_) (fun _ => ?_))
          | (show awp _ _ _ _; first | refine goA ?_ | refine awp_reg 10 5 mixed (by kernel_rfl) (by kernel_rfl) ?_ | (refine awp_condD rfl (fun _ => ?_) (fun _ => ?_) <;> try (exfalso; omega)) | (refine awp_condN rfl (fun _ => ?_) (fun _ => ?_) <;> try (exfalso; omega)) | refine awp_cond rfl (fun _ => ?_) (fun _ => ?_))
          | (show andThen _ _ _ _; first | refine goN ?_)
          | (show inBlock _ _ _ _; first | refine goB ?_)
          | (show awpR _ _ _ _ _ _; first | refine goR ?_ | refine clR 19 tt rfl rfl rfl (hr := c1) (k := ?_) | refine clR 19 tt rfl rfl rfl (hr := c2) (k := ?_) | (refine gdRD rfl rfl (fun _ => ?_) (fun _ => ?_) <;> try (exfalso; omega)) | (refine gdRN rfl rfl (fun _ => ?_) (fun _ => ?_) <;> try (exfalso; omega)) | refine gdR rfl rfl (fun _ => ?_) (fun _ => ?_))
          | (show retPost _ _ _ _ _; first | refine finF true rfl rfl sc ?_ | refine finF false rfl rfl sc ?_ | refine finC false rfl rfl sc sc ?_ | refine finN rfl rfl sc ?_ | refine finL true rfl rfl sc rfl (LeR.cons rfl leL LeR.nil) ?_ | refine finE true rfl rfl sc ?_ | refine finE false rfl rfl sc ?_))
        exact ⟨i + 1, by omega, by omega, ⟨rfl, rfl, iv (by omega), rfl, rfl, rfl⟩, rfl, by rw [e1, e2, ← hy]; rfl, trivial⟩
    · have u1 := mt p1.1 b1
      rw [if_neg b1] at e1
      by_cases b2 : n < y
      · have v1 := p2.2 b2
        rw [if_pos b2] at e2
        clear p1 p2 hk hm hn
        repeat' (first
          | (show awpL _ _ _ _ _; first | refine goL ?_ | refine cl 19 tt rfl rfl rfl (hr := c1) (k := ?_) | refine cl 19 tt rfl rfl rfl (hr := c2) (k := ?_) | (refine gdLD rfl rfl (fun _ => ?_) (fun _ => ?_) <;> try (exfalso; omega)) | (refine gdLN rfl rfl (fun _ => ?_) (fun _ => ?_) <;> try (exfalso; omega)) | refine gdL rfl rfl (fun _ => ?_) (fun _ => ?_))
          | (show awp _ _ _ _; first | refine goA ?_ | refine awp_reg 10 5 mixed (by kernel_rfl) (by kernel_rfl) ?_ | (refine awp_condD rfl (fun _ => ?_) (fun _ => ?_) <;> try (exfalso; omega)) | (refine awp_condN rfl (fun _ => ?_) (fun _ => ?_) <;> try (exfalso; omega)) | refine awp_cond rfl (fun _ => ?_) (fun _ => ?_))
          | (show andThen _ _ _ _; first | refine goN ?_)
          | (show inBlock _ _ _ _; first | refine goB ?_)
          | (show awpR _ _ _ _ _ _; first | refine goR ?_ | refine clR 19 tt rfl rfl rfl (hr := c1) (k := ?_) | refine clR 19 tt rfl rfl rfl (hr := c2) (k := ?_) | (refine gdRD rfl rfl (fun _ => ?_) (fun _ => ?_) <;> try (exfalso; omega)) | (refine gdRN rfl rfl (fun _ => ?_) (fun _ => ?_) <;> try (exfalso; omega)) | refine gdR rfl rfl (fun _ => ?_) (fun _ => ?_))
          | (show retPost _ _ _ _ _; first | refine finF true rfl rfl sc ?_ | refine finF false rfl rfl sc ?_ | refine finC false rfl rfl sc sc ?_ | refine finN rfl rfl sc ?_ | refine finL true rfl rfl sc rfl (LeR.cons rfl leL LeR.nil) ?_ | refine finE true rfl rfl sc ?_ | refine finE false rfl rfl sc ?_))
        exact ⟨i + 1, by omega, by omega, ⟨rfl, rfl, iv (by omega), rfl, rfl, rfl⟩, rfl, by rw [e1, e2, ← hy]; rfl, trivial⟩
      · have v1 := mt p2.1 b2
        rw [if_neg b2] at e2
        clear p1 p2 hk hm hn
        repeat' (first
          | (show awpL _ _ _ _ _; first | refine goL ?_ | refine cl 19 tt rfl rfl rfl (hr := c1) (k := ?_) | refine cl 19 tt rfl rfl rfl (hr := c2) (k := ?_) | (refine gdLD rfl rfl (fun _ => ?_) (fun _ => ?_) <;> try (exfalso; omega)) | (refine gdLN rfl rfl (fun _ => ?_) (fun _ => ?_) <;> try (exfalso; omega)) | refine gdL rfl rfl (fun _ => ?_) (fun _ => ?_))
          | (show awp _ _ _ _; first | refine goA ?_ | refine awp_reg 10 5 mixed (by kernel_rfl) (by kernel_rfl) ?_ | (refine awp_condD rfl (fun _ => ?_) (fun _ => ?_) <;> try (exfalso; omega)) | (refine awp_condN rfl (fun _ => ?_) (fun _ => ?_) <;> try (exfalso; omega)) | refine awp_cond rfl (fun _ => ?_) (fun _ => ?_))
          | (show andThen _ _ _ _; first | refine goN ?_)
          | (show inBlock _ _ _ _; first | refine goB ?_)
          | (show awpR _ _ _ _ _ _; first | refine goR ?_ | refine clR 19 tt rfl rfl rfl (hr := c1) (k := ?_) | refine clR 19 tt rfl rfl rfl (hr := c2) (k := ?_) | (refine gdRD rfl rfl (fun _ => ?_) (fun _ => ?_) <;> try (exfalso; omega)) | (refine gdRN rfl rfl (fun _ => ?_) (fun _ => ?_) <;> try (exfalso; omega)) | refine gdR rfl rfl (fun _ => ?_) (fun _ => ?_))
          | (show retPost _ _ _ _ _; first | refine finF true rfl rfl sc ?_ | refine finF false rfl rfl sc ?_ | refine finC false rfl rfl sc sc ?_ | refine finN rfl rfl sc ?_ | refine finL true rfl rfl sc rfl (LeR.cons rfl leL LeR.nil) ?_ | refine finE true rfl rfl sc ?_ | refine finE false rfl rfl sc ?_))
        exact ⟨i + 1, by omega, by omega, ⟨rfl, rfl, iv (by omega), rfl, rfl, rfl⟩, rfl, by rw [e1, e2]; rfl, trivial⟩
  · have e : l.take i = l := List.take_of_length_le (by omega)
    rw [e]
    have ho := hullL_ok l x x hx hx h'
    have n1 := interval_numberQ (l.foldl minQ x) (ho.1.mono (by decide))
    have n2 := interval_numberQ (l.foldl maxQ x) (ho.2.mono (by decide))
    unfold hullL
    generalize l.foldl minQ x = m at *
    generalize l.foldl maxQ x = n at *
    repeat' (first
      | (show awpL _ _ _ _ _; first | refine goL ?_ | refine cl 28 tt rfl rfl rfl (hr := n1) (k := ?_) | refine cl 28 tt rfl rfl rfl (hr := n2) (k := ?_) | (refine gdLD rfl rfl (fun _ => ?_) (fun _ => ?_) <;> try (exfalso; omega)) | (refine gdLN rfl rfl (fun _ => ?_) (fun _ => ?_) <;> try (exfalso; omega)) | refine gdL rfl rfl (fun _ => ?_) (fun _ => ?_))
      | (show awp _ _ _ _; first | refine goA ?_ | refine awp_reg 10 5 mixed (by kernel_rfl) (by kernel_rfl) ?_ | (refine awp_condD rfl (fun _ => ?_) (fun _ => ?_) <;> try (exfalso; omega)) | (refine awp_condN rfl (fun _ => ?_) (fun _ => ?_) <;> try (exfalso; omega)) | refine awp_cond rfl (fun _ => ?_) (fun _ => ?_))
      | (show andThen _ _ _ _; first | refine goN ?_)
      | (show inBlock _ _ _ _; first | refine goB ?_)
      | (show awpR _ _ _ _ _ _; first | refine goR ?_ | refine clR 28 tt rfl rfl rfl (hr := n1) (k := ?_) | refine clR 28 tt rfl rfl rfl (hr := n2) (k := ?_) | (refine gdRD rfl rfl (fun _ => ?_) (fun _ => ?_) <;> try (exfalso; omega)) | (refine gdRN rfl rfl (fun _ => ?_) (fun _ => ?_) <;> try (exfalso; omega)) | refine gdR rfl rfl (fun _ => ?_) (fun _ => ?_))
      | (show retPost _ _ _ _ _; first | refine finF true rfl rfl sc ?_ | refine finF false rfl rfl sc ?_ | refine finC false rfl rfl sc sc ?_ | refine finN rfl rfl sc ?_ | refine finL true rfl rfl sc rfl (LeR.cons rfl leL LeR.nil) ?_ | refine finE true rfl rfl sc ?_ | refine finE false rfl rfl sc ?_))
    rfl
theorem interval_Within (a b c d : R3) (ha : RatOk a 50000) (hb : RatOk b 50000) (hc : RatOk c 50000) (hd : RatOk d 50000) : Ret Try.prog 10 [iD a b, iD c d] (· = .bool (withinI (takeI (rv a) (rv b)) (takeI (rv c) (rv d)))) := by
  have t1 := interval_value a b ha hb
  have o1 := takeI_ok (k := 50000) (okQ_rv ha (by decide)) (okQ_rv hb (by decide)) (by decide)
  have q1 := takeI_le (rv a) (rv b)
  generalize takeI (rv a) (rv b) = i at *
  obtain ⟨p, q⟩ := i
  obtain ⟨op, oq⟩ := o1
  simp only at op oq q1
  have t2 := interval_value c d hc hd
  have o2 := takeI_ok (k := 50000) (okQ_rv hc (by decide)) (okQ_rv hd (by decide)) (by decide)
  have q2 := takeI_le (rv c) (rv d)
  generalize takeI (rv c) (rv d) = j at *
  obtain ⟨s, t⟩ := j
  obtain ⟨os, ot⟩ := o2
  simp only at os ot q2
  have h1 := rational_CompareQ s p (os.mono (by decide)) (op.mono (by decide))
  have h2 := rational_CompareQ q t (oq.mono (by decide)) (ot.mono (by decide))
  have p1 := cmpQ_pos s p
  have p2 := cmpQ_pos q t
  obtain ⟨u, hu⟩ : ∃ u, cmpQ s p = u := ⟨_, rfl⟩
  obtain ⟨v, hv⟩ : ∃ v, cmpQ q t = v := ⟨_, rfl⟩
  rw [hu] at h1 p1
  rw [hv] at h2 p2
  unfold withinI
  simp only
  rw [show decide (s ≤ p) = decide (u ≤ 0) by refine decide_eq_decide.2 ?_; rw [← Rat.not_lt, ← Int.not_lt, p1], show decide (q ≤ t) = decide (v ≤ 0) by refine decide_eq_decide.2 ?_; rw [← Rat.not_lt, ← Int.not_lt, p2]]
  clear hu hv p1 p2
  refine ret_of_awp tab Try.func10 rfl rfl (Nat.le_of_ble_eq_true rfl) (fun w0 F0 => ?_)
  repeat' (first
    | (show awpL _ _ _ _ _; first | refine goL ?_ | refine cl 18 tt rfl rfl rfl (hr := t1) (k := ?_) | refine cl 18 tt rfl rfl rfl (hr := t2) (k := ?_) | refine cl 19 tt rfl rfl rfl (hr := h1) (k := ?_) | refine cl 19 tt rfl rfl rfl (hr := h2) (k := ?_) | (refine gdLD rfl rfl (fun _ => ?_) (fun _ => ?_) <;> try (exfalso; omega)) | (refine gdLN rfl rfl (fun _ => ?_) (fun _ => ?_) <;> try (exfalso; omega)) | refine gdL rfl rfl (fun _ => ?_) (fun _ => ?_))
    | (show awp _ _ _ _; first | refine goA ?_ | refine awp_reg 1 3 mixed (by kernel_rfl) (by kernel_rfl) ?_ | (refine awp_condD rfl (fun _ => ?_) (fun _ => ?_) <;> try (exfalso; omega)) | (refine awp_condN rfl (fun _ => ?_) (fun _ => ?_) <;> try (exfalso; omega)) | refine awp_cond rfl (fun _ => ?_) (fun _ => ?_))
    | (show andThen _ _ _ _; first | refine goN ?_)
    | (show inBlock _ _ _ _; first | refine goB ?_)
    | (show awpR _ _ _ _ _ _; first | refine goR ?_ | refine clR 18 tt rfl rfl rfl (hr := t1) (k := ?_) | refine clR 18 tt rfl rfl rfl (hr := t2) (k := ?_) | refine clR 19 tt rfl rfl rfl (hr := h1) (k := ?_) | refine clR 19 tt rfl rfl rfl (hr := h2) (k := ?_) | (refine gdRD rfl rfl (fun _ => ?_) (fun _ => ?_) <;> try (exfalso; omega)) | (refine gdRN rfl rfl (fun _ => ?_) (fun _ => ?_) <;> try (exfalso; omega)) | refine gdR rfl rfl (fun _ => ?_) (fun _ => ?_))
    | (show retPost _ _ _ _ _; first | refine finF true rfl rfl sc ?_ | refine finF false rfl rfl sc ?_ | refine finC false rfl rfl sc sc ?_ | refine finN rfl rfl sc ?_ | refine finL true rfl rfl sc rfl (LeR.cons rfl leL LeR.nil) ?_ | refine finE true rfl rfl sc ?_ | refine finE false rfl rfl sc ?_))
  all_goals first | rfl | (rename_i hc; simp [hc])
theorem interval_WithinI (i j : I2) (hi : i.1 ≤ i.2) (hj : j.1 ≤ j.2) (oi : okI 50000 i) (oj : okI 50000 j) : Ret Try.prog 10 [iQ i, iQ j] (· = .bool (withinI i j)) := by
  have := interval_Within (rq i.1) (rq i.2) (rq j.1) (rq j.2) (ok_rq oi.1) (ok_rq oi.2) (ok_rq oj.1) (ok_rq oj.2)
  rw [rv_rq, rv_rq, rv_rq, rv_rq, takeI_of hi, takeI_of hj] at this
  exact this
theorem interval_Mul (a b c d : R3) (ha : RatOk a 50000) (hb : RatOk b 50000) (hc : RatOk c 50000) (hd : RatOk d 50000) : Ret Try.prog 16 [iD a b, iD c d] (· = iQ (mulI (takeI (rv a) (rv b)) (takeI (rv c) (rv d)))) := by
  have t1 := interval_value a b ha hb
  have o1 := takeI_ok (k := 50000) (okQ_rv ha (by decide)) (okQ_rv hb (by decide)) (by decide)
  have q1 := takeI_le (rv a) (rv b)
  generalize takeI (rv a) (rv b) = i at *
  obtain ⟨p, q⟩ := i
  obtain ⟨op, oq⟩ := o1
  simp only at op oq q1
  have t2 := interval_value c d hc hd
  have o2 := takeI_ok (k := 50000) (okQ_rv hc (by decide)) (okQ_rv hd (by decide)) (by decide)
  have q2 := takeI_le (rv c) (rv d)
  generalize takeI (rv c) (rv d) = j at *
  obtain ⟨s, t⟩ := j
  obtain ⟨os, ot⟩ := o2
  simp only at os ot q2
  have m1 := rational_MulQ p s (op.mono (by decide)) (os.mono (by decide))
  have m2 := rational_MulQ p t (op.mono (by decide)) (ot.mono (by decide))
  have m3 := rational_MulQ q s (oq.mono (by decide)) (os.mono (by decide))
  have m4 := rational_MulQ q t (oq.mono (by decide)) (ot.mono (by decide))
  have hh := interval_hull (p * s) [p * t, q * s, q * t] (by simp) (by
    intro x hx
    simp only [List.mem_cons, List.not_mem_nil, or_false] at hx
    rcases hx with h | h | h | h <;> rw [h]
    · exact (op.mul os).mono (by decide)
    · exact (op.mul ot).mono (by decide)
    · exact (oq.mul os).mono (by decide)
    · exact (oq.mul ot).mono (by decide))
  refine ret_of_awp tab Try.func16 rfl rfl (Nat.le_of_ble_eq_true rfl) (fun w0 F0 => ?_)
  repeat' (first
    | (show awpL _ _ _ _ _; first | refine goL ?_ | refine cl 18 tt rfl rfl rfl (hr := t1) (k := ?_) | refine cl 18 tt rfl rfl rfl (hr := t2) (k := ?_) | refine cl 25 tt rfl rfl rfl (hr := m1) (k := ?_) | refine cl 25 tt rfl rfl rfl (hr := m2) (k := ?_) | refine cl 25 tt rfl rfl rfl (hr := m3) (k := ?_) | refine cl 25 tt rfl rfl rfl (hr := m4) (k := ?_) | refine cl 21 tt rfl rfl rfl (hr := hh) (k := ?_) | (refine gdLD rfl rfl (fun _ => ?_) (fun _ => ?_) <;> try (exfalso; omega)) | (refine gdLN rfl rfl (fun _ => ?_) (fun _ => ?_) <;> try (exfalso; omega)) | refine gdL rfl rfl (fun _ => ?_) (fun _ => ?_))
    | (show awp _ _ _ _; first | refine goA ?_ | refine awp_reg 1 3 mixed (by kernel_rfl) (by kernel_rfl) ?_ | refine awp_reg 2 19 mixed (by kernel_rfl) (by kernel_rfl) ?_ | (refine awp_condD rfl (fun _ => ?_) (fun _ => ?_) <;> try (exfalso; omega)) | (refine awp_condN rfl (fun _ => ?_) (fun _ => ?_) <;> try (exfalso; omega)) | refine awp_cond rfl (fun _ => ?_) (fun _ => ?_))
    | (show andThen _ _ _ _; first | refine goN ?_)
    | (show inBlock _ _ _ _; first | refine goB ?_)
    | (show awpR _ _ _ _ _ _; first | refine goR ?_ | refine clR 18 tt rfl rfl rfl (hr := t1) (k := ?_) | refine clR 18 tt rfl rfl rfl (hr := t2) (k := ?_) | refine clR 25 tt rfl rfl rfl (hr := m1) (k := ?_) | refine clR 25 tt rfl rfl rfl (hr := m2) (k := ?_) | refine clR 25 tt rfl rfl rfl (hr := m3) (k := ?_) | refine clR 25 tt rfl rfl rfl (hr := m4) (k := ?_) | refine clR 21 tt rfl rfl rfl (hr := hh) (k := ?_) | (refine gdRD rfl rfl (fun _ => ?_) (fun _ => ?_) <;> try (exfalso; omega)) | (refine gdRN rfl rfl (fun _ => ?_) (fun _ => ?_) <;> try (exfalso; omega)) | refine gdR rfl rfl (fun _ => ?_) (fun _ => ?_))
    | (show retPost _ _ _ _ _; first | refine finF true rfl rfl sc ?_ | refine finF false rfl rfl sc ?_ | refine finC false rfl rfl sc sc ?_ | refine finN rfl rfl sc ?_ | refine finL true rfl rfl sc rfl (LeR.cons rfl leL LeR.nil) ?_ | refine finE true rfl rfl sc ?_ | refine finE false rfl rfl sc ?_))
  rfl
theorem interval_Square (a b : R3) (ha : RatOk a 50000) (hb : RatOk b 50000) : Ret Try.prog 17 [iD a b] (· = iQ (sqI (takeI (rv a) (rv b)))) := by
  have t1 := interval_value a b ha hb
  have o1 := takeI_ok (k := 50000) (okQ_rv ha (by decide)) (okQ_rv hb (by decide)) (by decide)
  have q1 := takeI_le (rv a) (rv b)
  generalize takeI (rv a) (rv b) = i at *
  obtain ⟨p, q⟩ := i
  obtain ⟨op, oq⟩ := o1
  simp only at op oq q1
  have hc0 := interval_ContainsI (p, q) q1 ⟨op, oq⟩ r0 (ok_r0 (by decide))
  rw [rv_r0] at hc0
  have m1 := rational_MulQ p p (op.mono (by decide)) (op.mono (by decide))
  have m2 := rational_MulQ q q (oq.mono (by decide)) (oq.mono (by decide))
  have hh := interval_hull (p * p) [q * q] (by simp) (by
    intro x hx
    simp only [List.mem_cons, List.not_mem_nil, or_false] at hx
    rcases hx with h | h <;> rw [h]
    · exact (op.mul op).mono (by decide)
    · exact (oq.mul oq).mono (by decide))
  unfold sqI
  simp only
  cases hz : containsI (p, q) 0
  · rw [hz] at hc0
    rw [if_neg (by decide)]
    generalize hullL (p * p) [q * q] = z at *
    refine ret_of_awp tab Try.func17 rfl rfl (Nat.le_of_ble_eq_true rfl) (fun w0 F0 => ?_)
    repeat' (first
      | (show awpL _ _ _ _ _; first | refine goL ?_ | refine cl 18 tt rfl rfl rfl (hr := t1) (k := ?_) | refine cl 9 tt rfl rfl rfl (hr := hc0) (k := ?_) | refine cl 25 tt rfl rfl rfl (hr := m1) (k := ?_) | refine cl 25 tt rfl rfl rfl (hr := m2) (k := ?_) | refine cl 21 tt rfl rfl rfl (hr := hh) (k := ?_) | (refine gdLD rfl rfl (fun _ => ?_) (fun _ => ?_) <;> try (exfalso; omega)) | (refine gdLN rfl rfl (fun _ => ?_) (fun _ => ?_) <;> try (exfalso; omega)) | refine gdL rfl rfl (fun _ => ?_) (fun _ => ?_))
      | (show awp _ _ _ _; first | refine goA ?_ | refine awp_regK 2 13 [3] mixed (by kernel_rfl) (by kernel_rfl) (by kernel_rfl) ?_ | (refine awp_condD rfl (fun _ => ?_) (fun _ => ?_) <;> try (exfalso; omega)) | (refine awp_condN rfl (fun _ => ?_) (fun _ => ?_) <;> try (exfalso; omega)) | refine awp_cond rfl (fun _ => ?_) (fun _ => ?_))
      | (show andThen _ _ _ _; first | refine goN ?_)
      | (show inBlock _ _ _ _; first | refine goB ?_)
      | (show awpR _ _ _ _ _ _; first | refine goR ?_ | refine clR 18 tt rfl rfl rfl (hr := t1) (k := ?_) | refine clR 9 tt rfl rfl rfl (hr := hc0) (k := ?_) | refine clR 25 tt rfl rfl rfl (hr := m1) (k := ?_) | refine clR 25 tt rfl rfl rfl (hr := m2) (k := ?_) | refine clR 21 tt rfl rfl rfl (hr := hh) (k := ?_) | (refine gdRD rfl rfl (fun _ => ?_) (fun _ => ?_) <;> try (exfalso; omega)) | (refine gdRN rfl rfl (fun _ => ?_) (fun _ => ?_) <;> try (exfalso; omega)) | refine gdR rfl rfl (fun _ => ?_) (fun _ => ?_))
      | (show retPost _ _ _ _ _; first | refine finF true rfl rfl sc ?_ | refine finF false rfl rfl sc ?_ | refine finC false rfl rfl sc sc ?_ | refine finN rfl rfl sc ?_ | refine finL true rfl rfl sc rfl (LeR.cons rfl leL LeR.nil) ?_ | refine finE true rfl rfl sc ?_ | refine finE false rfl rfl sc ?_))
    rfl
  · rw [hz] at hc0
    rw [if_pos rfl]
    unfold iQ
    simp only
    rw [rq_zero]
    generalize hullL (p * p) [q * q] = z at *
    refine ret_of_awp tab Try.func17 rfl rfl (Nat.le_of_ble_eq_true rfl) (fun w0 F0 => ?_)
    repeat' (first
      | (show awpL _ _ _ _ _; first | refine goL ?_ | refine cl 18 tt rfl rfl rfl (hr := t1) (k := ?_) | refine cl 9 tt rfl rfl rfl (hr := hc0) (k := ?_) | refine cl 25 tt rfl rfl rfl (hr := m1) (k := ?_) | refine cl 25 tt rfl rfl rfl (hr := m2) (k := ?_) | refine cl 21 tt rfl rfl rfl (hr := hh) (k := ?_) | (refine gdLD rfl rfl (fun _ => ?_) (fun _ => ?_) <;> try (exfalso; omega)) | (refine gdLN rfl rfl (fun _ => ?_) (fun _ => ?_) <;> try (exfalso; omega)) | refine gdL rfl rfl (fun _ => ?_) (fun _ => ?_))
      | (show awp _ _ _ _; first | refine goA ?_ | refine awp_regK 2 13 [3] mixed (by kernel_rfl) (by kernel_rfl) (by kernel_rfl) ?_ | (refine awp_condD rfl (fun _ => ?_) (fun _ => ?_) <;> try (exfalso; omega)) | (refine awp_condN rfl (fun _ => ?_) (fun _ => ?_) <;> try (exfalso; omega)) | refine awp_cond rfl (fun _ => ?_) (fun _ => ?_))
      | (show andThen _ _ _ _; first | refine goN ?_)
      | (show inBlock _ _ _ _; first | refine goB ?_)
      | (show awpR _ _ _ _ _ _; first | refine goR ?_ | refine clR 18 tt rfl rfl rfl (hr := t1) (k := ?_) | refine clR 9 tt rfl rfl rfl (hr := hc0) (k := ?_) | refine clR 25 tt rfl rfl rfl (hr := m1) (k := ?_) | refine clR 25 tt rfl rfl rfl (hr := m2) (k := ?_) | refine clR 21 tt rfl rfl rfl (hr := hh) (k := ?_) | (refine gdRD rfl rfl (fun _ => ?_) (fun _ => ?_) <;> try (exfalso; omega)) | (refine gdRN rfl rfl (fun _ => ?_) (fun _ => ?_) <;> try (exfalso; omega)) | refine gdR rfl rfl (fun _ => ?_) (fun _ => ?_))
      | (show retPost _ _ _ _ _; first | refine finF true rfl rfl sc ?_ | refine finF false rfl rfl sc ?_ | refine finC false rfl rfl sc sc ?_ | refine finN rfl rfl sc ?_ | refine finL true rfl rfl sc rfl (LeR.cons rfl leL LeR.nil) ?_ | refine finA true rfl rfl sc ?_ | refine finA false rfl rfl sc ?_ | refine finE true rfl rfl sc ?_ | refine finE false rfl rfl sc ?_))
    exact leL
theorem interval_Hull (a b c d : R3) (ha : RatOk a 50000) (hb : RatOk b 50000) (hc : RatOk c 50000) (hd : RatOk d 50000) : Ret Try.prog 8 [iD a b, iD c d] (· = iQ (hullI (takeI (rv a) (rv b)) (takeI (rv c) (rv d)))) := by
  have t1 := interval_value a b ha hb
  have o1 := takeI_ok (k := 50000) (okQ_rv ha (by decide)) (okQ_rv hb (by decide)) (by decide)
  have q1 := takeI_le (rv a) (rv b)
  generalize takeI (rv a) (rv b) = i at *
  obtain ⟨p, q⟩ := i
  obtain ⟨op, oq⟩ := o1
  simp only at op oq q1
  have t2 := interval_value c d hc hd
  have o2 := takeI_ok (k := 50000) (okQ_rv hc (by decide)) (okQ_rv hd (by decide)) (by decide)
  have q2 := takeI_le (rv c) (rv d)
  generalize takeI (rv c) (rv d) = j at *
  obtain ⟨s, t⟩ := j
  obtain ⟨os, ot⟩ := o2
  simp only at os ot q2
  have hh := interval_hull p [q, s, t] (by simp) (by
    intro x hx
    simp only [List.mem_cons, List.not_mem_nil, or_false] at hx
    rcases hx with h | h | h | h <;> rw [h]
    · exact op.mono (by decide)
    · exact oq.mono (by decide)
    · exact os.mono (by decide)
    · exact ot.mono (by decide))
  refine ret_of_awp tab Try.func8 rfl rfl (Nat.le_of_ble_eq_true rfl) (fun w0 F0 => ?_)
  repeat' (first
    | (show awpL _ _ _ _ _; first | refine goL ?_ | refine cl 18 tt rfl rfl rfl (hr := t1) (k := ?_) | refine cl 18 tt rfl rfl rfl (hr := t2) (k := ?_) | refine cl 21 tt rfl rfl rfl (hr := hh) (k := ?_) | (refine gdLD rfl rfl (fun _ => ?_) (fun _ => ?_) <;> try (exfalso; omega)) | (refine gdLN rfl rfl (fun _ => ?_) (fun _ => ?_) <;> try (exfalso; omega)) | refine gdL rfl rfl (fun _ => ?_) (fun _ => ?_))
    | (show awp _ _ _ _; first | refine goA ?_ | refine awp_reg 1 3 mixed (by kernel_rfl) (by kernel_rfl) ?_ | (refine awp_condD rfl (fun _ => ?_) (fun _ => ?_) <;> try (exfalso; omega)) | (refine awp_condN rfl (fun _ => ?_) (fun _ => ?_) <;> try (exfalso; omega)) | refine awp_cond rfl (fun _ => ?_) (fun _ => ?_))
    | (show andThen _ _ _ _; first | refine goN ?_)
    | (show inBlock _ _ _ _; first | refine goB ?_)
    | (show awpR _ _ _ _ _ _; first | refine goR ?_ | refine clR 18 tt rfl rfl rfl (hr := t1) (k := ?_) | refine clR 18 tt rfl rfl rfl (hr := t2) (k := ?_) | refine clR 21 tt rfl rfl rfl (hr := hh) (k := ?_) | (refine gdRD rfl rfl (fun _ => ?_) (fun _ => ?_) <;> try (exfalso; omega)) | (refine gdRN rfl rfl (fun _ => ?_) (fun _ => ?_) <;> try (exfalso; omega)) | refine gdR rfl rfl (fun _ => ?_) (fun _ => ?_))
    | (show retPost _ _ _ _ _; first | refine finF true rfl rfl sc ?_ | refine finF false rfl rfl sc ?_ | refine finC false rfl rfl sc sc ?_ | refine finN rfl rfl sc ?_ | refine finL true rfl rfl sc rfl (LeR.cons rfl leL LeR.nil) ?_ | refine finE true rfl rfl sc ?_ | refine finE false rfl rfl sc ?_))
  rfl
theorem interval_Meet (a b c d : R3) (ha : RatOk a 50000) (hb : RatOk b 50000) (hc : RatOk c 50000) (hd : RatOk d 50000) : Ret Try.prog 7 [iD a b, iD c d] (· = match meetI (takeI (rv a) (rv b)) (takeI (rv c) (rv d)) with | none => .tup [iD r0 r0, .bool false] | some m => .tup [iQ m, .bool true]) := by
  have t1 := interval_value a b ha hb
  have o1 := takeI_ok (k := 50000) (okQ_rv ha (by decide)) (okQ_rv hb (by decide)) (by decide)
  have q1 := takeI_le (rv a) (rv b)
  generalize takeI (rv a) (rv b) = i at *
  obtain ⟨p, q⟩ := i
  obtain ⟨op, oq⟩ := o1
  simp only at op oq q1
  have t2 := interval_value c d hc hd
  have o2 := takeI_ok (k := 50000) (okQ_rv hc (by decide)) (okQ_rv hd (by decide)) (by decide)
  have q2 := takeI_le (rv c) (rv d)
  generalize takeI (rv c) (rv d) = j at *
  obtain ⟨s, t⟩ := j
  obtain ⟨os, ot⟩ := o2
  simp only at os ot q2
  have c1 := rational_CompareQ p s (op.mono (by decide)) (os.mono (by decide))
  have c2 := rational_CompareQ q t (oq.mono (by decide)) (ot.mono (by decide))
  have o3 := okQ_maxQ op os
  have o4 := okQ_minQ oq ot
  have mk := interval_Make (rq (maxQ p s)) (rq (minQ q t)) (ok_rq o3) (ok_rq o4)
  rw [rv_rq, rv_rq] at mk
  have p1 := cmpQ_neg p s
  have p2 := cmpQ_pos q t
  obtain ⟨u, hu⟩ : ∃ u, cmpQ p s = u := ⟨_, rfl⟩
  obtain ⟨v, hv⟩ : ∃ v, cmpQ q t = v := ⟨_, rfl⟩
  rw [hu] at c1 p1
  rw [hv] at c2 p2
  have e1 : maxQ p s = if p < s then s else p := rfl
  have e2 : minQ q t = if t < q then t else q := rfl
  unfold meetI
  simp only
  rw [e1, e2] at mk ⊢
  clear hu hv e1 e2 o3 o4
  by_cases b1 : p < s <;> by_cases b2 : t < q
  all_goals
    first | rw [if_pos b1] at mk ⊢ | rw [if_neg b1] at mk ⊢
    first | rw [if_pos b2] at mk ⊢ | rw [if_neg b2] at mk ⊢
    rw [← p1] at b1
    rw [← p2] at b2
    clear p1 p2
  · by_cases h : t < s
    · rw [if_pos h] at mk ⊢
      refine ret_of_awp tab Try.func7 rfl rfl (Nat.le_of_ble_eq_true rfl) (fun w0 F0 => ?_)
      repeat' (first
        | (show awpL _ _ _ _ _; first | refine goL ?_ | refine cl 18 tt rfl rfl rfl (hr := t1) (k := ?_) | refine cl 18 tt rfl rfl rfl (hr := t2) (k := ?_) | refine cl 19 tt rfl rfl rfl (hr := c1) (k := ?_) | refine cl 19 tt rfl rfl rfl (hr := c2) (k := ?_) | refine cl 20 tt rfl rfl rfl (hr := mk) (k := ?_) | (refine gdLD rfl rfl (fun _ => ?_) (fun _ => ?_) <;> try (exfalso; omega)) | (refine gdLN rfl rfl (fun _ => ?_) (fun _ => ?_) <;> try (exfalso; omega)) | refine gdL rfl rfl (fun _ => ?_) (fun _ => ?_))
        | (show awp _ _ _ _; first | refine goA ?_ | refine awp_reg 1 3 mixed (by kernel_rfl) (by kernel_rfl) ?_ | (refine awp_condD rfl (fun _ => ?_) (fun _ => ?_) <;> try (exfalso; omega)) | (refine awp_condN rfl (fun _ => ?_) (fun _ => ?_) <;> try (exfalso; omega)) | refine awp_cond rfl (fun _ => ?_) (fun _ => ?_))
        | (show andThen _ _ _ _; first | refine goN ?_)
        | (show inBlock _ _ _ _; first | refine goB ?_)
        | (show awpR _ _ _ _ _ _; first | refine goR ?_ | refine clR 18 tt rfl rfl rfl (hr := t1) (k := ?_) | refine clR 18 tt rfl rfl rfl (hr := t2) (k := ?_) | refine clR 19 tt rfl rfl rfl (hr := c1) (k := ?_) | refine clR 19 tt rfl rfl rfl (hr := c2) (k := ?_) | refine clR 20 tt rfl rfl rfl (hr := mk) (k := ?_) | (refine gdRD rfl rfl (fun _ => ?_) (fun _ => ?_) <;> try (exfalso; omega)) | (refine gdRN rfl rfl (fun _ => ?_) (fun _ => ?_) <;> try (exfalso; omega)) | refine gdR rfl rfl (fun _ => ?_) (fun _ => ?_))
        | (show retPost _ _ _ _ _; first | refine finF true rfl rfl sc ?_ | refine finF false rfl rfl sc ?_ | refine finC false rfl rfl sc sc ?_ | refine finN rfl rfl sc ?_ | refine finL true rfl rfl sc rfl (LeR.cons rfl leL LeR.nil) ?_ | refine finT true rfl rfl sc ?_ | refine finT false rfl rfl sc ?_ | refine finE true rfl rfl sc ?_ | refine finE false rfl rfl sc ?_))
      all_goals exact leT
    · rw [if_neg h] at mk ⊢
      refine ret_of_awp tab Try.func7 rfl rfl (Nat.le_of_ble_eq_true rfl) (fun w0 F0 => ?_)
      repeat' (first
        | (show awpL _ _ _ _ _; first | refine goL ?_ | refine cl 18 tt rfl rfl rfl (hr := t1) (k := ?_) | refine cl 18 tt rfl rfl rfl (hr := t2) (k := ?_) | refine cl 19 tt rfl rfl rfl (hr := c1) (k := ?_) | refine cl 19 tt rfl rfl rfl (hr := c2) (k := ?_) | refine cl 20 tt rfl rfl rfl (hr := mk) (k := ?_) | (refine gdLD rfl rfl (fun _ => ?_) (fun _ => ?_) <;> try (exfalso; omega)) | (refine gdLN rfl rfl (fun _ => ?_) (fun _ => ?_) <;> try (exfalso; omega)) | refine gdL rfl rfl (fun _ => ?_) (fun _ => ?_))
        | (show awp _ _ _ _; first | refine goA ?_ | refine awp_reg 1 3 mixed (by kernel_rfl) (by kernel_rfl) ?_ | (refine awp_condD rfl (fun _ => ?_) (fun _ => ?_) <;> try (exfalso; omega)) | (refine awp_condN rfl (fun _ => ?_) (fun _ => ?_) <;> try (exfalso; omega)) | refine awp_cond rfl (fun _ => ?_) (fun _ => ?_))
        | (show andThen _ _ _ _; first | refine goN ?_)
        | (show inBlock _ _ _ _; first | refine goB ?_)
        | (show awpR _ _ _ _ _ _; first | refine goR ?_ | refine clR 18 tt rfl rfl rfl (hr := t1) (k := ?_) | refine clR 18 tt rfl rfl rfl (hr := t2) (k := ?_) | refine clR 19 tt rfl rfl rfl (hr := c1) (k := ?_) | refine clR 19 tt rfl rfl rfl (hr := c2) (k := ?_) | refine clR 20 tt rfl rfl rfl (hr := mk) (k := ?_) | (refine gdRD rfl rfl (fun _ => ?_) (fun _ => ?_) <;> try (exfalso; omega)) | (refine gdRN rfl rfl (fun _ => ?_) (fun _ => ?_) <;> try (exfalso; omega)) | refine gdR rfl rfl (fun _ => ?_) (fun _ => ?_))
        | (show retPost _ _ _ _ _; first | refine finF true rfl rfl sc ?_ | refine finF false rfl rfl sc ?_ | refine finC false rfl rfl sc sc ?_ | refine finN rfl rfl sc ?_ | refine finL true rfl rfl sc rfl (LeR.cons rfl leL LeR.nil) ?_ | refine finE true rfl rfl sc ?_ | refine finE false rfl rfl sc ?_))
      all_goals rfl
  · by_cases h : q < s
    · rw [if_pos h] at mk ⊢
      refine ret_of_awp tab Try.func7 rfl rfl (Nat.le_of_ble_eq_true rfl) (fun w0 F0 => ?_)
      repeat' (first
        | (show awpL _ _ _ _ _; first | refine goL ?_ | refine cl 18 tt rfl rfl rfl (hr := t1) (k := ?_) | refine cl 18 tt rfl rfl rfl (hr := t2) (k := ?_) | refine cl 19 tt rfl rfl rfl (hr := c1) (k := ?_) | refine cl 19 tt rfl rfl rfl (hr := c2) (k := ?_) | refine cl 20 tt rfl rfl rfl (hr := mk) (k := ?_) | (refine gdLD rfl rfl (fun _ => ?_) (fun _ => ?_) <;> try (exfalso; omega)) | (refine gdLN rfl rfl (fun _ => ?_) (fun _ => ?_) <;> try (exfalso; omega)) | refine gdL rfl rfl (fun _ => ?_) (fun _ => ?_))
        | (show awp _ _ _ _; first | refine goA ?_ | refine awp_reg 1 3 mixed (by kernel_rfl) (by kernel_rfl) ?_ | (refine awp_condD rfl (fun _ => ?_) (fun _ => ?_) <;> try (exfalso; omega)) | (refine awp_condN rfl (fun _ => ?_) (fun _ => ?_) <;> try (exfalso; omega)) | refine awp_cond rfl (fun _ => ?_) (fun _ => ?_))
        | (show andThen _ _ _ _; first | refine goN ?_)
        | (show inBlock _ _ _ _; first | refine goB ?_)
        | (show awpR _ _ _ _ _ _; first | refine goR ?_ | refine clR 18 tt rfl rfl rfl (hr := t1) (k := ?_) | refine clR 18 tt rfl rfl rfl (hr := t2) (k := ?_) | refine clR 19 tt rfl rfl rfl (hr := c1) (k := ?_) | refine clR 19 tt rfl rfl rfl (hr := c2) (k := ?_) | refine clR 20 tt rfl rfl rfl (hr := mk) (k := ?_) | (refine gdRD rfl rfl (fun _ => ?_) (fun _ => ?_) <;> try (exfalso; omega)) | (refine gdRN rfl rfl (fun _ => ?_) (fun _ => ?_) <;> try (exfalso; omega)) | refine gdR rfl rfl (fun _ => ?_) (fun _ => ?_))
        | (show retPost _ _ _ _ _; first | refine finF true rfl rfl sc ?_ | refine finF false rfl rfl sc ?_ | refine finC false rfl rfl sc sc ?_ | refine finN rfl rfl sc ?_ | refine finL true rfl rfl sc rfl (LeR.cons rfl leL LeR.nil) ?_ | refine finT true rfl rfl sc ?_ | refine finT false rfl rfl sc ?_ | refine finE true rfl rfl sc ?_ | refine finE false rfl rfl sc ?_))
      all_goals exact leT
    · rw [if_neg h] at mk ⊢
      refine ret_of_awp tab Try.func7 rfl rfl (Nat.le_of_ble_eq_true rfl) (fun w0 F0 => ?_)
      repeat' (first
        | (show awpL _ _ _ _ _; first | refine goL ?_ | refine cl 18 tt rfl rfl rfl (hr := t1) (k := ?_) | refine cl 18 tt rfl rfl rfl (hr := t2) (k := ?_) | refine cl 19 tt rfl rfl rfl (hr := c1) (k := ?_) | refine cl 19 tt rfl rfl rfl (hr := c2) (k := ?_) | refine cl 20 tt rfl rfl rfl (hr := mk) (k := ?_) | (refine gdLD rfl rfl (fun _ => ?_) (fun _ => ?_) <;> try (exfalso; omega)) | (refine gdLN rfl rfl (fun _ => ?_) (fun _ => ?_) <;> try (exfalso; omega)) | refine gdL rfl rfl (fun _ => ?_) (fun _ => ?_))
        | (show awp _ _ _ _; first | refine goA ?_ | refine awp_reg 1 3 mixed (by kernel_rfl) (by kernel_rfl) ?_ | (refine awp_condD rfl (fun _ => ?_) (fun _ => ?_) <;> try (exfalso; omega)) | (refine awp_condN rfl (fun _ => ?_) (fun _ => ?_) <;> try (exfalso; omega)) | refine awp_cond rfl (fun _ => ?_) (fun _ => ?_))
        | (show andThen _ _ _ _; first | refine goN ?_)
        | (show inBlock _ _ _ _; first | refine goB ?_)
        | (show awpR _ _ _ _ _ _; first | refine goR ?_ | refine clR 18 tt rfl rfl rfl (hr := t1) (k := ?_) | refine clR 18 tt rfl rfl rfl (hr := t2) (k := ?_) | refine clR 19 tt rfl rfl rfl (hr := c1) (k := ?_) | refine clR 19 tt rfl rfl rfl (hr := c2) (k := ?_) | refine clR 20 tt rfl rfl rfl (hr := mk) (k := ?_) | (refine gdRD rfl rfl (fun _ => ?_) (fun _ => ?_) <;> try (exfalso; omega)) | (refine gdRN rfl rfl (fun _ => ?_) (fun _ => ?_) <;> try (exfalso; omega)) | refine gdR rfl rfl (fun _ => ?_) (fun _ => ?_))
        | (show retPost _ _ _ _ _; first | refine finF true rfl rfl sc ?_ | refine finF false rfl rfl sc ?_ | refine finC false rfl rfl sc sc ?_ | refine finN rfl rfl sc ?_ | refine finL true rfl rfl sc rfl (LeR.cons rfl leL LeR.nil) ?_ | refine finE true rfl rfl sc ?_ | refine finE false rfl rfl sc ?_))
      all_goals rfl
  · by_cases h : t < p
    · rw [if_pos h] at mk ⊢
      refine ret_of_awp tab Try.func7 rfl rfl (Nat.le_of_ble_eq_true rfl) (fun w0 F0 => ?_)
      repeat' (first
        | (show awpL _ _ _ _ _; first | refine goL ?_ | refine cl 18 tt rfl rfl rfl (hr := t1) (k := ?_) | refine cl 18 tt rfl rfl rfl (hr := t2) (k := ?_) | refine cl 19 tt rfl rfl rfl (hr := c1) (k := ?_) | refine cl 19 tt rfl rfl rfl (hr := c2) (k := ?_) | refine cl 20 tt rfl rfl rfl (hr := mk) (k := ?_) | (refine gdLD rfl rfl (fun _ => ?_) (fun _ => ?_) <;> try (exfalso; omega)) | (refine gdLN rfl rfl (fun _ => ?_) (fun _ => ?_) <;> try (exfalso; omega)) | refine gdL rfl rfl (fun _ => ?_) (fun _ => ?_))
        | (show awp _ _ _ _; first | refine goA ?_ | refine awp_reg 1 3 mixed (by kernel_rfl) (by kernel_rfl) ?_ | (refine awp_condD rfl (fun _ => ?_) (fun _ => ?_) <;> try (exfalso; omega)) | (refine awp_condN rfl (fun _ => ?_) (fun _ => ?_) <;> try (exfalso; omega)) | refine awp_cond rfl (fun _ => ?_) (fun _ => ?_))
        | (show andThen _ _ _ _; first | refine goN ?_)
        | (show inBlock _ _ _ _; first | refine goB ?_)
        | (show awpR _ _ _ _ _ _; first | refine goR ?_ | refine clR 18 tt rfl rfl rfl (hr := t1) (k := ?_) | refine clR 18 tt rfl rfl rfl (hr := t2) (k := ?_) | refine clR 19 tt rfl rfl rfl (hr := c1) (k := ?_) | refine clR 19 tt rfl rfl rfl (hr := c2) (k := ?_) | refine clR 20 tt rfl rfl rfl (hr := mk) (k := ?_) | (refine gdRD rfl rfl (fun _ => ?_) (fun _ => ?_) <;> try (exfalso; omega)) | (refine gdRN rfl rfl (fun _ => ?_) (fun _ => ?_) <;> try (exfalso; omega)) | refine gdR rfl rfl (fun _ => ?_) (fun _ => ?_))
        | (show retPost _ _ _ _ _; first | refine finF true rfl rfl sc ?_ | refine finF false rfl rfl sc ?_ | refine finC false rfl rfl sc sc ?_ | refine finN rfl rfl sc ?_ | refine finL true rfl rfl sc rfl (LeR.cons rfl leL LeR.nil) ?_ | refine finT true rfl rfl sc ?_ | refine finT false rfl rfl sc ?_ | refine finE true rfl rfl sc ?_ | refine finE false rfl rfl sc ?_))
      all_goals exact leT
    · rw [if_neg h] at mk ⊢
      refine ret_of_awp tab Try.func7 rfl rfl (Nat.le_of_ble_eq_true rfl) (fun w0 F0 => ?_)
      repeat' (first
        | (show awpL _ _ _ _ _; first | refine goL ?_ | refine cl 18 tt rfl rfl rfl (hr := t1) (k := ?_) | refine cl 18 tt rfl rfl rfl (hr := t2) (k := ?_) | refine cl 19 tt rfl rfl rfl (hr := c1) (k := ?_) | refine cl 19 tt rfl rfl rfl (hr := c2) (k := ?_) | refine cl 20 tt rfl rfl rfl (hr := mk) (k := ?_) | (refine gdLD rfl rfl (fun _ => ?_) (fun _ => ?_) <;> try (exfalso; omega)) | (refine gdLN rfl rfl (fun _ => ?_) (fun _ => ?_) <;> try (exfalso; omega)) | refine gdL rfl rfl (fun _ => ?_) (fun _ => ?_))
        | (show awp _ _ _ _; first | refine goA ?_ | refine awp_reg 1 3 mixed (by kernel_rfl) (by kernel_rfl) ?_ | (refine awp_condD rfl (fun _ => ?_) (fun _ => ?_) <;> try (exfalso; omega)) | (refine awp_condN rfl (fun _ => ?_) (fun _ => ?_) <;> try (exfalso; omega)) | refine awp_cond rfl (fun _ => ?_) (fun _ => ?_))
        | (show andThen _ _ _ _; first | refine goN ?_)
        | (show inBlock _ _ _ _; first | refine goB ?_)
        | (show awpR _ _ _ _ _ _; first | refine goR ?_ | refine clR 18 tt rfl rfl rfl (hr := t1) (k := ?_) | refine clR 18 tt rfl rfl rfl (hr := t2) (k := ?_) | refine clR 19 tt rfl rfl rfl (hr := c1) (k := ?_) | refine clR 19 tt rfl rfl rfl (hr := c2) (k := ?_) | refine clR 20 tt rfl rfl rfl (hr := mk) (k := ?_) | (refine gdRD rfl rfl (fun _ => ?_) (fun _ => ?_) <;> try (exfalso; omega)) | (refine gdRN rfl rfl (fun _ => ?_) (fun _ => ?_) <;> try (exfalso; omega)) | refine gdR rfl rfl (fun _ => ?_) (fun _ => ?_))
        | (show retPost _ _ _ _ _; first | refine finF true rfl rfl sc ?_ | refine finF false rfl rfl sc ?_ | refine finC false rfl rfl sc sc ?_ | refine finN rfl rfl sc ?_ | refine finL true rfl rfl sc rfl (LeR.cons rfl leL LeR.nil) ?_ | refine finE true rfl rfl sc ?_ | refine finE false rfl rfl sc ?_))
      all_goals rfl
  · by_cases h : q < p
    · rw [if_pos h] at mk ⊢
      refine ret_of_awp tab Try.func7 rfl rfl (Nat.le_of_ble_eq_true rfl) (fun w0 F0 => ?_)
      repeat' (first
        | (show awpL _ _ _ _ _; first | refine goL ?_ | refine cl 18 tt rfl rfl rfl (hr := t1) (k := ?_) | refine cl 18 tt rfl rfl rfl (hr := t2) (k := ?_) | refine cl 19 tt rfl rfl rfl (hr := c1) (k := ?_) | refine cl 19 tt rfl rfl rfl (hr := c2) (k := ?_) | refine cl 20 tt rfl rfl rfl (hr := mk) (k := ?_) | (refine gdLD rfl rfl (fun _ => ?_) (fun _ => ?_) <;> try (exfalso; omega)) | (refine gdLN rfl rfl (fun _ => ?_) (fun _ => ?_) <;> try (exfalso; omega)) | refine gdL rfl rfl (fun _ => ?_) (fun _ => ?_))
        | (show awp _ _ _ _; first | refine goA ?_ | refine awp_reg 1 3 mixed (by kernel_rfl) (by kernel_rfl) ?_ | (refine awp_condD rfl (fun _ => ?_) (fun _ => ?_) <;> try (exfalso; omega)) | (refine awp_condN rfl (fun _ => ?_) (fun _ => ?_) <;> try (exfalso; omega)) | refine awp_cond rfl (fun _ => ?_) (fun _ => ?_))
        | (show andThen _ _ _ _; first | refine goN ?_)
        | (show inBlock _ _ _ _; first | refine goB ?_)
        | (show awpR _ _ _ _ _ _; first | refine goR ?_ | refine clR 18 tt rfl rfl rfl (hr := t1) (k := ?_) | refine clR 18 tt rfl rfl rfl (hr := t2) (k := ?_) | refine clR 19 tt rfl rfl rfl (hr := c1) (k := ?_) | refine clR 19 tt rfl rfl rfl (hr := c2) (k := ?_) | refine clR 20 tt rfl rfl rfl (hr := mk) (k := ?_) | (refine gdRD rfl rfl (fun _ => ?_) (fun _ => ?_) <;> try (exfalso; omega)) | (refine gdRN rfl rfl (fun _ => ?_) (fun _ => ?_) <;> try (exfalso; omega)) | refine gdR rfl rfl (fun _ => ?_) (fun _ => ?_))
        | (show retPost _ _ _ _ _; first | refine finF true rfl rfl sc ?_ | refine finF false rfl rfl sc ?_ | refine finC false rfl rfl sc sc ?_ | refine finN rfl rfl sc ?_ | refine finL true rfl rfl sc rfl (LeR.cons rfl leL LeR.nil) ?_ | refine finT true rfl rfl sc ?_ | refine finT false rfl rfl sc ?_ | refine finE true rfl rfl sc ?_ | refine finE false rfl rfl sc ?_))
      all_goals exact leT
    · rw [if_neg h] at mk ⊢
      refine ret_of_awp tab Try.func7 rfl rfl (Nat.le_of_ble_eq_true rfl) (fun w0 F0 => ?_)
      repeat' (first
        | (show awpL _ _ _ _ _; first | refine goL ?_ | refine cl 18 tt rfl rfl rfl (hr := t1) (k := ?_) | refine cl 18 tt rfl rfl rfl (hr := t2) (k := ?_) | refine cl 19 tt rfl rfl rfl (hr := c1) (k := ?_) | refine cl 19 tt rfl rfl rfl (hr := c2) (k := ?_) | refine cl 20 tt rfl rfl rfl (hr := mk) (k := ?_) | (refine gdLD rfl rfl (fun _ => ?_) (fun _ => ?_) <;> try (exfalso; omega)) | (refine gdLN rfl rfl (fun _ => ?_) (fun _ => ?_) <;> try (exfalso; omega)) | refine gdL rfl rfl (fun _ => ?_) (fun _ => ?_))
        | (show awp _ _ _ _; first | refine goA ?_ | refine awp_reg 1 3 mixed (by kernel_rfl) (by kernel_rfl) ?_ | (refine awp_condD rfl (fun _ => ?_) (fun _ => ?_) <;> try (exfalso; omega)) | (refine awp_condN rfl (fun _ => ?_) (fun _ => ?_) <;> try (exfalso; omega)) | refine awp_cond rfl (fun _ => ?_) (fun _ => ?_))
        | (show andThen _ _ _ _; first | refine goN ?_)
        | (show inBlock _ _ _ _; first | refine goB ?_)
        | (show awpR _ _ _ _ _ _; first | refine goR ?_ | refine clR 18 tt rfl rfl rfl (hr := t1) (k := ?_) | refine clR 18 tt rfl rfl rfl (hr := t2) (k := ?_) | refine clR 19 tt rfl rfl rfl (hr := c1) (k := ?_) | refine clR 19 tt rfl rfl rfl (hr := c2) (k := ?_) | refine clR 20 tt rfl rfl rfl (hr := mk) (k := ?_) | (refine gdRD rfl rfl (fun _ => ?_) (fun _ => ?_) <;> try (exfalso; omega)) | (refine gdRN rfl rfl (fun _ => ?_) (fun _ => ?_) <;> try (exfalso; omega)) | refine gdR rfl rfl (fun _ => ?_) (fun _ => ?_))
        | (show retPost _ _ _ _ _; first | refine finF true rfl rfl sc ?_ | refine finF false rfl rfl sc ?_ | refine finC false rfl rfl sc sc ?_ | refine finN rfl rfl sc ?_ | refine finL true rfl rfl sc rfl (LeR.cons rfl leL LeR.nil) ?_ | refine finE true rfl rfl sc ?_ | refine finE false rfl rfl sc ?_))
      all_goals rfl
end Go.Proofs.Ytjjefhbceoeibaa

set_option linter.unusedVariables false
set_option linter.unusedSimpArgs false
namespace Go.Proofs.Ytjjefhbceoeibaa
open Go.Vw
attribute [local irreducible] awp awpL awpR

theorem interval_power (n : Nat) (h : n ≤ 128) : Ret Try.prog 23 [.int .i64 n] (· = u32s (limbs (2 ^ n))) := by
  rw [← limbs_two]
  have e1 : ((n : Int)).tdiv 32 = ((n / 32 : Nat) : Int) := by rw [Int.tdiv_eq_ediv_of_nonneg (by omega)]; omega
  have e2 : ((n : Int)).tmod 32 = ((n % 32 : Nat) : Int) := by rw [Int.tmod_eq_emod_of_nonneg (by omega)]; omega
  refine ret_of_awp tab Try.func23 rfl rfl (Nat.le_of_ble_eq_true rfl) (fun w0 F0 => ?_)
  repeat' (first
    | (show awpL _ _ _ _ _; first | refine goL ?_ | (refine gdLD rfl rfl (fun _ => ?_) (fun _ => ?_) <;> try (exfalso; omega)) | (refine gdLN rfl rfl (fun _ => ?_) (fun _ => ?_) <;> try (exfalso; omega)) | refine gdL rfl rfl (fun _ => ?_) (fun _ => ?_))
    | (show awp _ _ _ _; first | refine goA ?_ | (refine awp_condD rfl (fun _ => ?_) (fun _ => ?_) <;> try (exfalso; omega)) | (refine awp_condN rfl (fun _ => ?_) (fun _ => ?_) <;> try (exfalso; omega)) | refine awp_cond rfl (fun _ => ?_) (fun _ => ?_))
    | (show andThen _ _ _ _; first | refine goN ?_)
    | (show inBlock _ _ _ _; first | refine goB ?_)
    | (show awpR _ _ _ _ _ _; first | refine goR ?_ | (refine gdRD rfl rfl (fun _ => ?_) (fun _ => ?_) <;> try (exfalso; omega)) | (refine gdRN rfl rfl (fun _ => ?_) (fun _ => ?_) <;> try (exfalso; omega)) | refine gdR rfl rfl (fun _ => ?_) (fun _ => ?_))
    | (show retPost _ _ _ _ _; first | refine finF true rfl rfl sc ?_ | refine finF false rfl rfl sc ?_ | refine finC false rfl rfl sc sc ?_ | refine finN rfl rfl sc ?_ | refine finL true rfl rfl sc rfl (LeR.cons rfl leL LeR.nil) ?_ | refine finE true rfl rfl sc ?_ | refine finE false rfl rfl sc ?_))
  have hp : 2 ^ (n % 32) < 4294967296 := by
    show 2 ^ (n % 32) < 2 ^ 32
    exact Nat.pow_lt_pow_right (by decide) (show n % 32 < 32 by omega)
  rw [show ((n : Int) % 32).toNat = n % 32 by omega]
  congr 1
  generalize n % 32 = s at *
  rw [Int.one_mul, show (2 : Int) ^ s = ((2 ^ s : Nat) : Int) from (Int.natCast_pow 2 s).symm]
  generalize 2 ^ s = y at *
  omega
theorem interval_RootN (v : R3) (n : Nat) (hn : n ≤ 128) (hv : RatOk v 20000) (h0 : 0 ≤ (rv v).num) : Ret Try.prog 12 [rD v, .int .i64 n] (· = .tup [iQ (rootI (rv v) n), .int .i64 0]) := by
  have ov := okQ_rv (k := 20000) hv (by decide)
  have ot := okQ_two hn
  have ott := ot.mul ot
  have om := ov.mul ott
  have hs := rational_Sign v (hv.up (by decide))
  have hs0 : 0 ≤ (rv v).num.sign := Int.sign_nonneg_iff.2 h0
  have ht := interval_power n hn
  have m1 : Ret Try.prog 25 [rD (rq (twoQ n)), rD (rq (twoQ n))] (· = qD (twoQ n * twoQ n)) := rational_MulQ (twoQ n) (twoQ n) (ot.mono (by decide)) (ot.mono (by decide))
  rw [rq_two] at m1
  have m2 := rational_Mul v (rq (twoQ n * twoQ n)) (hv.up (by decide)) (ok_rq (ott.mono (by decide)))
  rw [rv_rq] at m2
  have f1 := rational_FloorQ (rv v * (twoQ n * twoQ n)) (om.mono (by decide))
  have lf := floor_len om
  have r1 := natural_RootN (rv v * (twoQ n * twoQ n)).floor.natAbs (by omega)
  rw [show rt (rv v * (twoQ n * twoQ n)).floor.natAbs = rootN (rv v) n from rfl] at r1
  have lr := rootN_len ov hn
  have or := okQ_natI (k := 20020) lr (by decide)
  have q1 : Ret Try.prog 26 [rD (rq (((rootN (rv v) n : Nat) : Int) : Rat)), rD (rq (twoQ n))] (· = if twoQ n = 0 then .tup [rD r0, .int .i64 5] else .tup [qD ((((rootN (rv v) n : Nat) : Int) : Rat) / twoQ n), .int .i64 0]) := rational_DivQ (((rootN (rv v) n : Nat) : Int) : Rat) (twoQ n) (or.mono (by decide)) (ot.mono (by decide))
  rw [if_neg (twoQ_ne n)] at q1
  have olo := or.div ot (twoQ_ne n)
  rw [rq_natI, rq_two] at q1
  have hI : rootI (rv v) n = if rootLo (rv v) n * rootLo (rv v) n = rv v then (rootLo (rv v) n, rootLo (rv v) n) else (rootLo (rv v) n, rootLo (rv v) n + 1 / twoQ n) := rfl
  rw [hI]
  rw [show (((rootN (rv v) n : Nat) : Int) : Rat) / twoQ n = rootLo (rv v) n from rfl] at q1 olo
  have m3 := rational_MulQ (rootLo (rv v) n) (rootLo (rv v) n) (olo.mono (by decide)) (olo.mono (by decide))
  have c1 := rational_Compare (rq (rootLo (rv v) n * rootLo (rv v) n)) v (ok_rq ((olo.mul olo).mono (by decide))) (hv.up (by decide))
  rw [rv_rq] at c1
  have z1 := cmpQ_zero (rootLo (rv v) n * rootLo (rv v) n) (rv v)
  have nu := interval_numberQ (rootLo (rv v) n) (olo.mono (by decide))
  have fi := rational_FromIntQ 1 (by decide) (by decide)
  rw [show ((1 : Int) : Rat) = 1 from rfl] at fi
  have o1 : okQ 2 1 := ⟨by show (limbs 1).length < 2; rw [limbs_one]; decide, by show (limbs 1).length < 2; rw [limbs_one]; decide⟩
  have q2 : Ret Try.prog 26 [qD 1, rD (rq (twoQ n))] (· = if twoQ n = 0 then .tup [rD r0, .int .i64 5] else .tup [qD (1 / twoQ n), .int .i64 0]) := rational_DivQ 1 (twoQ n) (o1.mono (by decide)) (ot.mono (by decide))
  rw [if_neg (twoQ_ne n), rq_two] at q2
  have a1 := rational_AddQ (rootLo (rv v) n) (1 / twoQ n) (olo.mono (by decide)) ((o1.div ot (twoQ_ne n)).mono (by decide))
  clear hI ov or olo om ott lf lr ot o1
  generalize rootLo (rv v) n + 1 / twoQ n = hi at *
  generalize 1 / twoQ n = st at *
  generalize rootLo (rv v) n = lo at *
  generalize rootN (rv v) n = r at *
  generalize (rv v * (twoQ n * twoQ n)).floor = f at *
  generalize rv v * (twoQ n * twoQ n) = vtt at *
  generalize twoQ n * twoQ n = t4 at *
  generalize 2 ^ n = pw at *
  generalize (rv v).num.sign = sg at *
  obtain ⟨c, hc⟩ : ∃ c, cmpQ (lo * lo) (rv v) = c := ⟨_, rfl⟩
  rw [hc] at c1 z1
  by_cases h : lo * lo = rv v
  · have hc0 := z1.2 h
    rw [if_pos h]
    clear z1
    generalize lo * lo = lo2 at *
    refine ret_of_awp tab Try.func12 rfl rfl (Nat.le_of_ble_eq_true rfl) (fun w0 F0 => ?_)
    repeat' (first
      | (show awpL _ _ _ _ _; first | refine goL ?_ | refine cl 22 tt rfl rfl rfl (hr := hs) (k := ?_) | refine cl 23 tt rfl rfl rfl (hr := ht) (k := ?_) | refine cl 25 tt rfl rfl rfl (hr := m1) (k := ?_) | refine cl 25 tt rfl rfl rfl (hr := m2) (k := ?_) | refine cl 24 tt rfl rfl rfl (hr := f1) (k := ?_) | refine cl 27 tt rfl rfl rfl (hr := r1) (k := ?_) | refine cl 26 tt rfl rfl rfl (hr := q1) (k := ?_) | refine cl 25 tt rfl rfl rfl (hr := m3) (k := ?_) | refine cl 19 tt rfl rfl rfl (hr := c1) (k := ?_) | refine cl 28 tt rfl rfl rfl (hr := nu) (k := ?_) | (refine gdLD rfl rfl (fun _ => ?_) (fun _ => ?_) <;> try (exfalso; omega)) | (refine gdLN rfl rfl (fun _ => ?_) (fun _ => ?_) <;> try (exfalso; omega)) | refine gdL rfl rfl (fun _ => ?_) (fun _ => ?_))
      | (show awp _ _ _ _; first | refine goA ?_ | refine awp_regK 4 7 [7] mixed (by kernel_rfl) (by kernel_rfl) (by kernel_rfl) ?_ | refine awp_regK 5 12 [8] mixed (by kernel_rfl) (by kernel_rfl) (by kernel_rfl) ?_ | refine awp_reg 6 4 mixed (by kernel_rfl) (by kernel_rfl) ?_ | refine awp_reg 7 3 mixed (by kernel_rfl) (by kernel_rfl) ?_ | refine awp_regK 8 8 [10] mixed (by kernel_rfl) (by kernel_rfl) (by kernel_rfl) ?_ | refine awp_reg 9 4 mixed (by kernel_rfl) (by kernel_rfl) ?_ | (refine awp_condD rfl (fun _ => ?_) (fun _ => ?_) <;> try (exfalso; omega)) | (refine awp_condN rfl (fun _ => ?_) (fun _ => ?_) <;> try (exfalso; omega)) | refine awp_cond rfl (fun _ => ?_) (fun _ => ?_))
      | (show andThen _ _ _ _; first | refine goN ?_)
      | (show inBlock _ _ _ _; first | refine goB ?_)
      | (show awpR _ _ _ _ _ _; first | refine goR ?_ | refine clR 22 tt rfl rfl rfl (hr := hs) (k := ?_) | refine clR 23 tt rfl rfl rfl (hr := ht) (k := ?_) | refine clR 25 tt rfl rfl rfl (hr := m1) (k := ?_) | refine clR 25 tt rfl rfl rfl (hr := m2) (k := ?_) | refine clR 24 tt rfl rfl rfl (hr := f1) (k := ?_) | refine clR 27 tt rfl rfl rfl (hr := r1) (k := ?_) | refine clR 26 tt rfl rfl rfl (hr := q1) (k := ?_) | refine clR 25 tt rfl rfl rfl (hr := m3) (k := ?_) | refine clR 19 tt rfl rfl rfl (hr := c1) (k := ?_) | refine clR 28 tt rfl rfl rfl (hr := nu) (k := ?_) | (refine gdRD rfl rfl (fun _ => ?_) (fun _ => ?_) <;> try (exfalso; omega)) | (refine gdRN rfl rfl (fun _ => ?_) (fun _ => ?_) <;> try (exfalso; omega)) | refine gdR rfl rfl (fun _ => ?_) (fun _ => ?_))
      | (show retPost _ _ _ _ _; first | refine finF true rfl rfl sc ?_ | refine finF false rfl rfl sc ?_ | refine finC false rfl rfl sc sc ?_ | refine finN rfl rfl sc ?_ | refine finL true rfl rfl sc rfl (LeR.cons rfl leL LeR.nil) ?_ | refine finE true rfl rfl sc ?_ | refine finE false rfl rfl sc ?_))
    rfl
  · have hc0 := mt z1.1 h
    rw [if_neg h]
    clear z1
    generalize lo * lo = lo2 at *
    refine ret_of_awp tab Try.func12 rfl rfl (Nat.le_of_ble_eq_true rfl) (fun w0 F0 => ?_)
    repeat' (first
      | (show awpL _ _ _ _ _; first | refine goL ?_ | refine cl 22 tt rfl rfl rfl (hr := hs) (k := ?_) | refine cl 23 tt rfl rfl rfl (hr := ht) (k := ?_) | refine cl 25 tt rfl rfl rfl (hr := m1) (k := ?_) | refine cl 25 tt rfl rfl rfl (hr := m2) (k := ?_) | refine cl 24 tt rfl rfl rfl (hr := f1) (k := ?_) | refine cl 27 tt rfl rfl rfl (hr := r1) (k := ?_) | refine cl 26 tt rfl rfl rfl (hr := q1) (k := ?_) | refine cl 25 tt rfl rfl rfl (hr := m3) (k := ?_) | refine cl 19 tt rfl rfl rfl (hr := c1) (k := ?_) | refine cl 29 tt rfl rfl rfl (hr := fi) (k := ?_) | refine cl 26 tt rfl rfl rfl (hr := q2) (k := ?_) | refine cl 30 tt rfl rfl rfl (hr := a1) (k := ?_) | (refine gdLD rfl rfl (fun _ => ?_) (fun _ => ?_) <;> try (exfalso; omega)) | (refine gdLN rfl rfl (fun _ => ?_) (fun _ => ?_) <;> try (exfalso; omega)) | refine gdL rfl rfl (fun _ => ?_) (fun _ => ?_))
      | (show awp _ _ _ _; first | refine goA ?_ | refine awp_regK 4 7 [7] mixed (by kernel_rfl) (by kernel_rfl) (by kernel_rfl) ?_ | refine awp_regK 5 12 [8] mixed (by kernel_rfl) (by kernel_rfl) (by kernel_rfl) ?_ | refine awp_reg 6 4 mixed (by kernel_rfl) (by kernel_rfl) ?_ | refine awp_reg 7 3 mixed (by kernel_rfl) (by kernel_rfl) ?_ | refine awp_regK 8 8 [10] mixed (by kernel_rfl) (by kernel_rfl) (by kernel_rfl) ?_ | refine awp_reg 9 4 mixed (by kernel_rfl) (by kernel_rfl) ?_ | (refine awp_condD rfl (fun _ => ?_) (fun _ => ?_) <;> try (exfalso; omega)) | (refine awp_condN rfl (fun _ => ?_) (fun _ => ?_) <;> try (exfalso; omega)) | refine awp_cond rfl (fun _ => ?_) (fun _ => ?_))
      | (show andThen _ _ _ _; first | refine goN ?_)
      | (show inBlock _ _ _ _; first | refine goB ?_)
      | (show awpR _ _ _ _ _ _; first | refine goR ?_ | refine clR 22 tt rfl rfl rfl (hr := hs) (k := ?_) | refine clR 23 tt rfl rfl rfl (hr := ht) (k := ?_) | refine clR 25 tt rfl rfl rfl (hr := m1) (k := ?_) | refine clR 25 tt rfl rfl rfl (hr := m2) (k := ?_) | refine clR 24 tt rfl rfl rfl (hr := f1) (k := ?_) | refine clR 27 tt rfl rfl rfl (hr := r1) (k := ?_) | refine clR 26 tt rfl rfl rfl (hr := q1) (k := ?_) | refine clR 25 tt rfl rfl rfl (hr := m3) (k := ?_) | refine clR 19 tt rfl rfl rfl (hr := c1) (k := ?_) | refine clR 29 tt rfl rfl rfl (hr := fi) (k := ?_) | refine clR 26 tt rfl rfl rfl (hr := q2) (k := ?_) | refine clR 30 tt rfl rfl rfl (hr := a1) (k := ?_) | (refine gdRD rfl rfl (fun _ => ?_) (fun _ => ?_) <;> try (exfalso; omega)) | (refine gdRN rfl rfl (fun _ => ?_) (fun _ => ?_) <;> try (exfalso; omega)) | refine gdR rfl rfl (fun _ => ?_) (fun _ => ?_))
      | (show retPost _ _ _ _ _; first | refine finF true rfl rfl sc ?_ | refine finF false rfl rfl sc ?_ | refine finC false rfl rfl sc sc ?_ | refine finN rfl rfl sc ?_ | refine finL true rfl rfl sc rfl (LeR.cons rfl leL LeR.nil) ?_ | refine finE true rfl rfl sc ?_ | refine finE false rfl rfl sc ?_))
    rfl
theorem interval_RootE (v : R3) (b : Int) (hb : -9223372036854775808 ≤ b) (hb2 : b < 9223372036854775808) (hv : RatOk v 20000) (h0 : (rv v).num < 0 ∨ b < 0 ∨ 128 < b) : Ret Try.prog 12 [rD v, .int .i64 b] (· = .tup [iD r0 r0, .int .i64 1]) := by
  have hs := rational_Sign v (hv.up (by decide))
  have hs0 : (rv v).num < 0 ↔ (rv v).num.sign < 0 := by rw [← Int.not_le, ← Int.not_le, Int.sign_nonneg_iff]
  generalize (rv v).num.sign = sg at *
  generalize (rv v).num = nu at *
  rw [hs0] at h0
  clear hs0
  refine ret_of_awp tab Try.func12 rfl rfl (Nat.le_of_ble_eq_true rfl) (fun w0 F0 => ?_)
  repeat' (first
    | (show awpL _ _ _ _ _; first | refine goL ?_ | refine cl 22 tt rfl rfl rfl (hr := hs) (k := ?_) | (refine gdLD rfl rfl (fun _ => ?_) (fun _ => ?_) <;> try (exfalso; omega)) | (refine gdLN rfl rfl (fun _ => ?_) (fun _ => ?_) <;> try (exfalso; omega)) | refine gdL rfl rfl (fun _ => ?_) (fun _ => ?_))
    | (show awp _ _ _ _; first | refine goA ?_ | refine awp_regK 4 7 [7] mixed (by kernel_rfl) (by kernel_rfl) (by kernel_rfl) ?_ | refine awp_regK 5 12 [8] mixed (by kernel_rfl) (by kernel_rfl) (by kernel_rfl) ?_ | refine awp_reg 6 4 mixed (by kernel_rfl) (by kernel_rfl) ?_ | refine awp_reg 7 3 mixed (by kernel_rfl) (by kernel_rfl) ?_ | refine awp_regK 8 8 [10] mixed (by kernel_rfl) (by kernel_rfl) (by kernel_rfl) ?_ | refine awp_reg 9 4 mixed (by kernel_rfl) (by kernel_rfl) ?_ | (refine awp_condD rfl (fun _ => ?_) (fun _ => ?_) <;> try (exfalso; omega)) | (refine awp_condN rfl (fun _ => ?_) (fun _ => ?_) <;> try (exfalso; omega)) | refine awp_cond rfl (fun _ => ?_) (fun _ => ?_))
    | (show andThen _ _ _ _; first | refine goN ?_)
    | (show inBlock _ _ _ _; first | refine goB ?_)
    | (show awpR _ _ _ _ _ _; first | refine goR ?_ | refine clR 22 tt rfl rfl rfl (hr := hs) (k := ?_) | (refine gdRD rfl rfl (fun _ => ?_) (fun _ => ?_) <;> try (exfalso; omega)) | (refine gdRN rfl rfl (fun _ => ?_) (fun _ => ?_) <;> try (exfalso; omega)) | refine gdR rfl rfl (fun _ => ?_) (fun _ => ?_))
    | (show retPost _ _ _ _ _; first | refine finF true rfl rfl sc ?_ | refine finF false rfl rfl sc ?_ | refine finC false rfl rfl sc sc ?_ | refine finN rfl rfl sc ?_ | refine finL true rfl rfl sc rfl (LeR.cons rfl leL LeR.nil) ?_ | refine finT true rfl rfl sc ?_ | refine finT false rfl rfl sc ?_ | refine finE true rfl rfl sc ?_ | refine finE false rfl rfl sc ?_))
  all_goals exact leT
end Go.Proofs.Ytjjefhbceoeibaa

/-
  What an argument of a law holds, as a value of a plain type: whatever can be read of it, it stands for. Conditions: the type's shape is as its code says (a closed fact).
-/
set_option linter.unusedSimpArgs false
set_option linter.unusedVariables false
set_option linter.unusedSectionVars false
namespace Go.Vw
open Go.RowKit Go.ChangeShapes Go.WideShapes

mutual
inductive Ty where
  | int (k : IntKind)
  | bool
  | str
  | struct (fs : Tys)
  | slice (e : Ty)
inductive Tys where
  | nil
  | cons (t : Ty) (ts : Tys)
end
mutual
def Ty.Val : Ty → Type
  | .int _ => Int
  | .bool => Bool
  | .str => List UInt8
  | .struct fs => fs.Val
  | .slice e => List e.Val
def Tys.Val : Tys → Type
  | .nil => Unit
  | .cons t ts => t.Val × ts.Val
end
mutual
def Ty.zero : (t : Ty) → t.Val
  | .int _ => (0 : Int)
  | .bool => false
  | .str => ([] : List UInt8)
  | .struct fs => fs.zero
  | .slice e => ([] : List e.Val)
def Tys.zero : (ts : Tys) → ts.Val
  | .nil => ()
  | .cons t ts => (t.zero, ts.zero)
end
mutual
def Ty.width : Ty → Nat
  | .int _ => 1
  | .bool => 1
  | .str => 1
  | .struct fs => fs.width
  | .slice _ => 1
def Tys.width : Tys → Nat
  | .nil => 0
  | .cons t ts => t.width + ts.width
end
mutual
def Ty.cells : (t : Ty) → t.Val → List D
  | .int k, (n : Int) => [.int k n]
  | .bool, (b : Bool) => [.bool b]
  | .str, (s : List UInt8) => [.str s]
  | .struct fs, v => fs.cells v
  | .slice e, (l : List e.Val) => [.sl e.width e.cells e.zero l]
def Tys.cells : (ts : Tys) → ts.Val → List D
  | .nil, _ => []
  | .cons t ts, v => t.cells v.1 ++ ts.cells v.2
end
mutual
def Ty.wf : (t : Ty) → t.Val → Prop
  | .int k, (n : Int) => (Lit.int k n).wf = true
  | .bool, _ => True
  | .str, (s : List UInt8) => s.length ≤ maxLen
  | .struct fs, v => fs.wf v
  | .slice e, (l : List e.Val) => l.length ≤ maxLen ∧ ∀ a ∈ l, e.wf a
def Tys.wf : (ts : Tys) → ts.Val → Prop
  | .nil, _ => True
  | .cons t ts, v => t.wf v.1 ∧ ts.wf v.2
end
mutual
def Ty.ok (P : Program) : Ty → TypeId → Bool
  | .int k, t => match P.underlying t with | some (.int k') => decide (k' = k) | _ => false
  | .bool, t => match P.underlying t with | some .bool => true | _ => false
  | .str, t => match P.underlying t with | some .string => true | _ => false
  | .struct fs, t => match P.underlying t with | some (.struct fields) => Nat.beq (P.cellsOf t) fs.width && Tys.ok P fs fields.toList 0 | _ => false
  | .slice e, t => match P.underlying t with | some (.slice te) => Nat.beq (P.cellsOf te) e.width && Nat.blt 0 e.width && Ty.ok P e te | _ => false
def Tys.ok (P : Program) : Tys → List Field → Nat → Bool
  | .nil, fs, _ => match fs with | [] => true | _ :: _ => false
  | .cons t ts, fs, off => match fs with
    | f :: fs => Nat.beq f.offset off && Nat.beq (P.cellsOf f.type) t.width && Ty.ok P t f.type && Tys.ok P ts fs (off + t.width)
    | [] => false
end
mutual
theorem Ty.cells_len : ∀ (t : Ty) (v : t.Val), (t.cells v).length = t.width
  | .int k, v => rfl
  | .bool, v => rfl
  | .str, v => rfl
  | .struct fs, v => by simp only [Ty.cells, Ty.width]; exact Tys.cells_len fs v
  | .slice e, v => rfl
theorem Tys.cells_len : ∀ (ts : Tys) (v : ts.Val), (ts.cells v).length = ts.width
  | .nil, v => rfl
  | .cons t ts, v => by simp only [Tys.cells, Tys.width, List.length_append]; rw [Ty.cells_len t v.1, Tys.cells_len ts v.2]
end

/-- All that the memory holds. -/
def allF (w : World) : Nat → Prop := fun b => b < w.heap.size
section
variable {H : Type} {enc : TypeId × Value → H} {P : Program} {w : World} {held : Bool}

theorem dra_one {F : Nat → Prop} {g : Nat → Option Value} {off : Nat} {x : D} {v : Value} (h0 : g off = some v) (h1 : v.oneCell' = true) (h : DR F w x v) : DRA F w g off [x] := by
  simp only [DRA]; exact ⟨⟨v, h0, h1, h⟩, trivial⟩
theorem dra_app {F : Nat → Prop} {g : Nat → Option Value} {xs ys : List D} {off : Nat} (h : DRA F w g off xs) (k : DRA F w g (off + xs.length) ys) : DRA F w g off (xs ++ ys) := by
  rw [DRA_iff] at h k ⊢
  intro i c hi
  by_cases hl : i < xs.length
  · rw [List.getElem?_append_left hl] at hi; exact h i c hi
  · rw [List.getElem?_append_right (by omega)] at hi
    obtain ⟨v, h1, h2⟩ := k _ c hi
    exact ⟨v, by rw [← h1]; congr 1; omega, h2⟩
/-- Where cells are read, there lies a row. -/
theorem row_of_cells {a : Addr} {n : Nat} {cs : List Value} (h : w.cells? 0 a n = some cs) (hn : 0 < n) : ∃ b o arr ty fz, a = ⟨b, o, none⟩ ∧ w.heap[b]? = some (.cells arr ty fz) := by
  obtain ⟨_, hl, hc⟩ := World.cells?_some h
  have h0 := hc 0 hn
  rw [List.getElem?_eq_getElem (by omega)] at h0
  obtain ⟨b, o, sp⟩ := a
  unfold World.cell? at h0
  split at h0
  · rename_i c ty fz hh
    split at h0
    · cases h0
    · rename_i hs
      cases sp with
      | none => exact ⟨b, o, c, ty, fz, rfl, hh⟩
      | some s => exact absurd rfl hs
  · cases h0

mutual
theorem Ty.reads : ∀ (ty : Ty) (fuel : Nat) (t : TypeId) (cs : List Value) (x : DataW H × List MemPlace), ty.ok P t = true → DataW.trod enc P w 0 (fun _ => true) held fuel t cs = some x → ∃ v : ty.Val, ty.wf v ∧ cs.length = ty.width ∧ DRA (allF w) w (fun i => cs[i]?) 0 (ty.cells v)
  | .int k, fuel, t, cs, x, hok, h => by
    simp only [Ty.ok] at hok
    split at hok
    · rename_i k' hu
      have hk := of_decide_eq_true hok
      subst hk
      obtain ⟨n, rfl, _, hw⟩ := DataW.trod_int hu h
      exact ⟨(n : Int), hw, rfl, dra_one rfl rfl (by simp only [DR])⟩
    · cases hok
  | .bool, fuel, t, cs, x, hok, h => by
    simp only [Ty.ok] at hok
    split at hok
    · rename_i hu
      obtain ⟨b, rfl, _⟩ := DataW.trod_bool hu h
      exact ⟨(b : Bool), trivial, rfl, dra_one rfl rfl (by simp only [DR])⟩
    · cases hok
  | .str, fuel, t, cs, x, hok, h => by
    simp only [Ty.ok] at hok
    split at hok
    · rename_i hu
      obtain ⟨s, rfl, _, hs⟩ := DataW.trod_string hu h
      refine ⟨(s.data.toList : List UInt8), ?_, rfl, dra_one rfl rfl (by simp only [DR])⟩
      simp only [Ty.wf]
      rw [Array.length_toList]; exact hs
    · cases hok
  | .struct fs, fuel, t, cs, x, hok, h => by
    simp only [Ty.ok] at hok
    split at hok
    · rename_i fields hu
      simp only [Bool.and_eq_true] at hok
      obtain ⟨hw, hf⟩ := hok
      have hw := Nat.eq_of_beq_eq_true hw
      obtain ⟨xs, n, rfl, _, hl, hxl, hx⟩ := DataW.trod_struct hu h
      have hall : ∀ (i : Nat) (f : Field), fields.toList[i]? = some f → ∃ y, DataW.trod enc P w 0 (fun _ => true) held n f.type ((cs.drop f.offset).take (P.cellsOf f.type)) = some y := fun i f hi => by
        rw [Array.getElem?_toList] at hi
        have hlt := (Array.getElem?_eq_some_iff.1 hi).1
        have := hx i f hi
        rw [List.getElem?_eq_getElem (by omega)] at this
        exact ⟨_, this⟩
      obtain ⟨v, h1, h2⟩ := Tys.reads fs n fields.toList 0 cs hf hall
      exact ⟨v, h1, by rw [hl, hw]; rfl, h2⟩
    · cases hok
  | .slice e, fuel, t, cs, x, hok, h => by
    simp only [Ty.ok] at hok
    split at hok
    · rename_i te hu
      simp only [Bool.and_eq_true, Nat.blt_eq] at hok
      obtain ⟨⟨hw, hw0⟩, he⟩ := hok
      have hw := Nat.eq_of_beq_eq_true hw
      rcases Go.Deep.open_slice hu h with ⟨rfl, _⟩ | ⟨a, len, cap, m, n, Dx, Pl, rfl, hb, hlc, hcm, hm, _, hi⟩
      · exact ⟨([] : List e.Val), ⟨by simp, fun a h => by simp at h⟩, rfl, dra_one rfl rfl (by simp only [DR]; exact .inl ⟨⟨_, rfl⟩, trivial⟩)⟩
      · have hlm : len ≤ m := by rw [hm]; split <;> omega
        have each : ∀ i, i < len → ∃ v : e.Val, e.wf v ∧ ∃ cs', w.cells? 0 (a.add (i * P.cellsOf te)) (P.cellsOf te) = some cs' ∧ DRA (allF w) w (fun j => cs'[j]?) 0 (e.cells v) := fun i hlt => by
          obtain ⟨cs', h1, h2⟩ := hi i (by omega)
          obtain ⟨v, q1, q2, q3⟩ := Ty.reads e n te cs' _ he h2
          exact ⟨v, q1, cs', h1, q3⟩
        have : ∃ V : Nat → e.Val, ∀ i, i < len → (e.wf (V i) ∧ ∃ cs', w.cells? 0 (a.add (i * P.cellsOf te)) (P.cellsOf te) = some cs' ∧ DRA (allF w) w (fun j => cs'[j]?) 0 (e.cells (V i))) :=
          ⟨fun i => if h : i < len then (each i h).choose else e.zero, fun i h => by
            simp only [h, dif_pos]
            exact (each i h).choose_spec⟩
        obtain ⟨V, hV⟩ := this
        refine ⟨((List.range len).map V : List e.Val), ⟨by simp; omega, fun v hv => ?_⟩, rfl, dra_one rfl rfl ?_⟩
        · simp only [List.mem_map, List.mem_range] at hv
          obtain ⟨i, hlt, rfl⟩ := hv
          exact (hV i hlt).1
        simp only [DR]
        simp only [if_true] at hm
        by_cases hc0 : cap = 0
        · have hl0 : len = 0 := by omega
          subst hl0 hc0
          exact .inl ⟨⟨_, rfl⟩, by simp⟩
        · obtain ⟨cs0, h0, _⟩ := hi 0 (by omega)
          rw [Nat.zero_mul, show a.add 0 = a by simp [Addr.add]] at h0
          obtain ⟨b, o, arr, ty, fz, ha, hh⟩ := row_of_cells h0 (by omega)
          have ha' : a = ⟨b, a.off, none⟩ := by subst ha; rfl
          refine .inr ⟨b, a.off, cap, arr, ty, fz, by rw [ha']; simp, by simpa using hlc, lt_of_heap hh, hh, fun i v hv => ?_⟩
          have hlt : i < len := by have := (List.getElem?_eq_some_iff.1 hv).1; simpa using this
          simp [hlt] at hv
          subst hv
          obtain ⟨_, cs', h1, h2⟩ := hV i hlt
          refine ⟨Ty.cells_len _ _, ?_⟩
          obtain ⟨_, hcl, hcc⟩ := World.cells?_some h1
          rw [DRA_iff] at h2 ⊢
          intro j c hj
          obtain ⟨u, p1, p2⟩ := h2 j c hj
          have hjl := (List.getElem?_eq_some_iff.1 hj).1
          rw [Ty.cells_len] at hjl
          refine ⟨u, ?_, p2⟩
          have h3 := hcc j (by omega)
          rw [Nat.zero_add] at p1
          rw [p1, ha', add_plain, add_plain] at h3
          simp only [World.cell?, hh] at h3
          rw [← hw]
          simpa using h3
    · cases hok
theorem Tys.reads : ∀ (ts : Tys) (n : Nat) (fields : List Field) (off : Nat) (cs : List Value), ts.ok P fields off = true → (∀ (i : Nat) (f : Field), fields[i]? = some f → ∃ y, DataW.trod enc P w 0 (fun _ => true) held n f.type ((cs.drop f.offset).take (P.cellsOf f.type)) = some y) → ∃ v : ts.Val, ts.wf v ∧ DRA (allF w) w (fun i => cs[i]?) off (ts.cells v)
  | .nil, n, fields, off, cs, hok, h => ⟨(), trivial, by simp only [Tys.cells, DRA]⟩
  | .cons t ts, n, fields, off, cs, hok, h => by
    simp only [Tys.ok] at hok
    split at hok
    · rename_i f fs
      simp only [Bool.and_eq_true] at hok
      obtain ⟨⟨⟨h1, h2⟩, h3⟩, h4⟩ := hok
      have h1 := Nat.eq_of_beq_eq_true h1
      have h2 := Nat.eq_of_beq_eq_true h2
      obtain ⟨y, hy⟩ := h 0 f rfl
      obtain ⟨v, q1, q2, q3⟩ := Ty.reads t n f.type _ y h3 hy
      obtain ⟨v2, r1, r2⟩ := Tys.reads ts n fs (off + t.width) cs h4 (fun i g hg => h (i + 1) g (by simpa using hg))
      refine ⟨(v, v2), ⟨q1, r1⟩, ?_⟩
      simp only [Tys.cells]
      refine dra_app ?_ (by rw [Ty.cells_len]; exact r2)
      rw [DRA_iff] at q3 ⊢
      intro i c hi
      obtain ⟨u, p1, p2⟩ := q3 i c hi
      have hlt := (List.getElem?_eq_some_iff.1 hi).1
      rw [Ty.cells_len] at hlt
      refine ⟨u, ?_, p2⟩
      rw [Nat.zero_add, List.getElem?_take, if_pos (by omega), List.getElem?_drop, h1] at p1
      exact p1
    · cases hok
end

/-- A type's value as one argument. -/
def Ty.top : (t : Ty) → t.Val → D
  | .int k, (n : Int) => .int k n
  | .bool, (b : Bool) => .bool b
  | .str, (s : List UInt8) => .str s
  | .struct fs, v => .agg (fs.cells v)
  | .slice e, (l : List e.Val) => .sl e.width e.cells e.zero l
theorem Ty.topReads {r : Reach} {b0 : Nat} : ∀ (ty : Ty) (t : TypeId) (v : Value) (d : DataW H) (ps : List MemPlace), ty.ok P t = true → Value.okWide P w r b0 t v → DataW.Trod enc P w 0 (fun _ => true) held t v d ps → ∃ x : ty.Val, ty.wf x ∧ DR (allF w) w (ty.top x) v := fun ty t v d ps hok hv h => by
  obtain ⟨fuel, h⟩ := h
  obtain ⟨x, h1, h2, h3⟩ := Ty.reads ty fuel t _ _ hok h
  refine ⟨x, h1, ?_⟩
  have one : ∀ (y : D), v.cells.toList = [v] → DRA (allF w) w (fun i => v.cells.toList[i]?) 0 [y] → DR (allF w) w y v := fun y e hd => by
    rw [e] at hd
    simp only [DRA] at hd
    obtain ⟨⟨u, hu, _, hd⟩, _⟩ := hd
    simp at hu; subst hu; exact hd
  cases ty with
  | int k =>
    simp only [Ty.ok] at hok
    split at hok
    · rename_i k' hu
      refine one _ ?_ h3
      cases v <;> first | rfl | (simp [Value.okWide, hu, Cell.okWide, Cell.ok] at hv)
    · cases hok
  | bool =>
    simp only [Ty.ok] at hok
    split at hok
    · rename_i hu
      refine one _ ?_ h3
      cases v <;> first | rfl | (simp [Value.okWide, hu, Cell.okWide, Cell.ok] at hv)
    · cases hok
  | str =>
    simp only [Ty.ok] at hok
    split at hok
    · rename_i hu
      refine one _ ?_ h3
      cases v <;> first | rfl | (simp [Value.okWide, hu, Cell.okWide, Cell.ok] at hv)
    · cases hok
  | struct fs =>
    simp only [Ty.ok] at hok
    split at hok
    · rename_i fields hu
      simp only [Value.okWide, hu] at hv
      obtain ⟨arr, rfl, hs, _⟩ := hv
      simp only [Ty.top, DR]
      refine ⟨arr, rfl, ?_, ?_⟩
      · have hc := Tys.cells_len fs x
        have h2' : arr.size = fs.width := by simpa [Value.cells, Ty.width] using h2
        exact h2'.trans hc.symm
      · rw [DRA_iff] at h3 ⊢
        intro i c hi
        obtain ⟨u, p1, p2⟩ := h3 i c hi
        exact ⟨u, by simpa [Value.cells] using p1, p2⟩
    · cases hok
  | slice e =>
    simp only [Ty.ok] at hok
    split at hok
    · rename_i te hu
      refine one _ ?_ h3
      cases v <;> first | rfl | (simp [Value.okWide, hu, Cell.okWide, Cell.ok] at hv)
    · cases hok

/-- All arguments. -/
def Tys.tops : (ts : Tys) → ts.Val → List D
  | .nil, _ => []
  | .cons t ts, v => t.top v.1 :: ts.tops v.2
def Tys.oks (P : Program) : Tys → List TypeId → Bool
  | .nil, l => match l with | [] => true | _ :: _ => false
  | .cons t ts, l => match l with | a :: r => Ty.ok P t a && Tys.oks P ts r | [] => false
theorem Tys.tops_len : ∀ (ts : Tys) (l : List TypeId) (v : ts.Val), ts.oks P l = true → (ts.tops v).length = l.length
  | .nil, [], _, _ => rfl
  | .nil, _ :: _, _, h => by simp [Tys.oks] at h
  | .cons t ts, [], _, h => by simp [Tys.oks] at h
  | .cons t ts, a :: r, v, h => by
    simp only [Tys.oks, Bool.and_eq_true] at h
    simp only [Tys.tops, List.length_cons, Tys.tops_len ts r v.2 h.2]
theorem Tys.topsRead {r : Reach} {b0 : Nat} : ∀ (tys : Tys) (ts : List TypeId) (vs : List Value) (ds : List (DataW H)) (ps : List MemPlace), tys.oks P ts = true → (∀ (j : Nat) t v, ts[j]? = some t → vs[j]? = some v → Value.okWide P w r b0 t v) → DataW.TrodAll enc P w 0 (fun _ => true) held ts vs ds ps → ∃ x : tys.Val, tys.wf x ∧ vs.length = ts.length ∧ ∀ g off, (∀ i, g (off + i) = vs[i]?) → DRT (allF w) w g off (tys.tops x)
  | .nil, [], vs, ds, ps, _, _, h => by
    cases vs <;> cases ds <;> first | (exact absurd h id) | exact ⟨(), trivial, rfl, fun g off _ => by simp only [Tys.tops, DRT]⟩
  | .nil, _ :: _, _, _, _, hok, _, _ => by simp [Tys.oks] at hok
  | .cons t ts, [], _, _, _, hok, _, _ => by simp [Tys.oks] at hok
  | .cons t ts, a :: r', vs, ds, ps, hok, hv, h => by
    simp only [Tys.oks, Bool.and_eq_true] at hok
    cases vs with
    | nil => cases ds <;> exact absurd h id
    | cons v vs =>
      cases ds with
      | nil => exact absurd h id
      | cons d ds =>
        obtain ⟨p, q, h1, h2, _⟩ := h
        obtain ⟨x, g1, g2⟩ := Ty.topReads t a v d p hok.1 (hv 0 a v rfl rfl) h1
        obtain ⟨y, k1, k2, k3⟩ := Tys.topsRead ts r' vs ds q hok.2 (fun j t' v' e1 e2 => hv (j + 1) t' v' (by simpa using e1) (by simpa using e2)) h2
        refine ⟨(x, y), ⟨g1, k1⟩, by simp [k2], fun g off hg => ?_⟩
        simp only [Tys.tops, DRT]
        refine ⟨⟨v, by simpa using hg 0, g2⟩, k3 g (off + 1) (fun i => ?_)⟩
        rw [Nat.add_assoc, Nat.add_comm 1 i, hg (i + 1)]; simp
end
end Go.Vw
