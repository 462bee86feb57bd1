/-
  Contracts of functions of the program, walked with the abstract layer. Conditions: as each says.
-/
import Derived.Test.YtcblkjmnigbiiaaDoorR06
import Derived.Test.YtcblkjmnigbiiaaDoorContr
set_option linter.unusedVariables false
set_option linter.unusedSimpArgs false
namespace Go.Proofs.YtcblkjmnigbiiaaDoor
open Go.Vw
attribute [local irreducible] awp awpL awpR

theorem rq_int (z : Int) : rq (z : Rat) = zR z := by
  unfold rq zR
  rw [Rat.num_intCast, Rat.den_intCast]
  rfl
theorem okQ_int {z : Int} (h : z.natAbs < 4294967296) : okQ 1000000 (z : Rat) := by
  unfold okQ
  rw [Rat.num_intCast, Rat.den_intCast, limbs_one]
  exact ⟨Nat.lt_of_le_of_lt (len_small h) (by decide), by decide⟩
theorem ref03_AddI (x y : Int) (hx : x.natAbs < 4294967296) (hy : y.natAbs < 4294967296) : Ret Tryd.prog 17 [rD (zR x), rD (zR y)] (· = rD (zR (x + y))) := by
  have := ref03_AddQ x y (okQ_int hx) (okQ_int hy)
  rw [← Rat.intCast_add, rq_int, rq_int, rq_int] at this; exact this
theorem ref03_MulI (x y : Int) (hx : x.natAbs < 4294967296) (hy : y.natAbs < 4294967296) : Ret Tryd.prog 20 [rD (zR x), rD (zR y)] (· = rD (zR (x * y))) := by
  have := ref03_MulQ x y (okQ_int hx) (okQ_int hy)
  rw [← Rat.intCast_mul, rq_int, rq_int, rq_int] at this; exact this
theorem ref03_SignI (x : Int) (hx : x.natAbs < 4294967296) : Ret Tryd.prog 21 [rD (zR x)] (· = .int .i64 x.sign) := by
  have := ref03_SignQ x (okQ_int hx)
  rw [rq_int, Rat.num_intCast] at this; exact this
theorem zR_zero : zR 0 = r0 := by simp [zR, limbs_zero]
theorem zR_inj {x y : Int} (h : zR x = zR y) : x = y := by
  have := rq_inj (p := (x : Rat)) (q := (y : Rat)) (by rw [rq_int, rq_int, h])
  exact Rat.intCast_inj.1 this
theorem okR_int (z : Int) (h : z.natAbs < 4294967296) : okR 100000000000 (zR z) := ⟨Nat.lt_of_le_of_lt (len_small h) (by decide), by show ([] : List Nat).length < _; decide⟩
theorem ref03_SameI (x y : Int) (hx : x.natAbs < 4294967296) (hy : y.natAbs < 4294967296) : Ret Tryd.prog 18 [rD (zR x), rD (zR y)] (· = .bool (decide (x = y))) := by
  have := ref03_Same (zR x) (zR y) (okR_int x hx) (okR_int y hy)
  rw [show decide (zR x = zR y) = decide (x = y) by
    by_cases h : x = y
    · subst h; simp
    · rw [decide_eq_false h, decide_eq_false (fun e => h (zR_inj e))]] at this
  exact this
end Go.Proofs.YtcblkjmnigbiiaaDoor
