/-
  A statement of the seat: what its contract is, and the claim. Conditions: as each says.
-/
import Derived.Test.YtlphlodailailaaGreatY34
import Derived.Test.YtlphlodailailaaGreatA10
set_option linter.unusedVariables false
set_option linter.unusedSimpArgs false
set_option maxHeartbeats 8000000
namespace Go.Proofs.YtlphlodailailaaGreat
open Go.Vw
attribute [local irreducible] awp awpL awpR awpAC

theorem isolates_true (a : List Int) (lo hi : Int) (na : a.length ≤ 9223372036854775807) (xa : I64 a) (l1 : -9223372036854775808 ≤ lo) (l2 : lo < 9223372036854775808) (h1 : -9223372036854775808 ≤ hi) (h2 : hi < 9223372036854775808) : Ret Tryz.prog 9 [i64s a, .int .i64 lo, .int .i64 hi] (· = .bool true) := by
  have aw := law05_awake
  have sa := law05_small a 6 na xa (by decide)
  have n1 := made_Number lo l1 l2
  have n2 := made_Number hi h1 h2
  have op := nums2 a 6
  have ox := numQ2 lo
  have oy := numQ2 hi
  have bx := numQ_bd lo
  have bY := numQ_bd hi
  have ht := num_ht (a.take 6)
  rw [show (a.take 6).map numQ = (a.take 6).map numQ from rfl] at ht
  have lp : ((a.take 6).map numQ).length ≤ 6 := by rw [List.length_map, List.length_take]; omega
  generalize (a.take 6).map numQ = p at *
  generalize numQ lo = x at *
  generalize numQ hi = y at *
  clear na xa l1 l2 h1 h2
  have hp := polOk_small op lp
  have dg := ref05_DegreeQ p (by omega) (fun x hx => (op x hx).mono (by decide))
  have ls := ref03_LessQ y x (oy.mono (by decide)) (ox.mono (by decide))
  by_cases p0 : trimP p = []
  · have i0 := polynomial_Isolate0 hp p0 (x, y)
    have l0 : (trimP p).length = 0 := by rw [p0]; rfl
    generalize trimP p = q at *
    clear hp op ox oy bx bY ht p0 ls
    refine ret_of_awp tab Tryz.func9 rfl rfl (Nat.le_of_ble_eq_true rfl) (fun w0 F0 => ?_)
    repeat' (first
      | (show awpL _ _ _ _ _; first | refine goL ?_ | refine cl 13 tt rfl rfl rfl (hr := sa) (k := ?_) | refine cl 14 tt rfl rfl rfl (hr := n1) (k := ?_) | refine cl 14 tt rfl rfl rfl (hr := n2) (k := ?_) | refine cl 49 tt rfl rfl rfl (hr := i0) (k := ?_) | refine cl 30 tt rfl rfl rfl (hr := dg) (k := ?_) | refine cl 15 tt rfl rfl rfl (hr := aw) (k := ?_) | (refine gdLG ?_ ?_ <;> intro _ <;> try (exfalso; omega)))
      | (show awp _ _ _ _; first | refine goA ?_ | (refine cdG ?_ ?_ <;> intro _ <;> try (exfalso; omega)))
      | (show andThen _ _ _ _; refine goN ?_)
      | (show inBlock _ _ _ _; refine goB ?_)
      | (show retPost _ _ _ _ _; refine finG ?_))
    all_goals simp
  · have lq := ne_len p0
    by_cases hxy : y < x
    · have i1 := polynomial_Isolate1 hp p0 (x, y) hxy ⟨ox.mono (by decide), oy.mono (by decide)⟩
      rw [decide_eq_true hxy] at ls
      generalize trimP p = q at *
      clear hp op ox oy bx bY ht p0
      refine ret_of_awp tab Tryz.func9 rfl rfl (Nat.le_of_ble_eq_true rfl) (fun w0 F0 => ?_)
      repeat' (first
        | (show awpL _ _ _ _ _; first | refine goL ?_ | refine cl 13 tt rfl rfl rfl (hr := sa) (k := ?_) | refine cl 14 tt rfl rfl rfl (hr := n1) (k := ?_) | refine cl 14 tt rfl rfl rfl (hr := n2) (k := ?_) | refine cl 49 tt rfl rfl rfl (hr := i1) (k := ?_) | refine cl 30 tt rfl rfl rfl (hr := dg) (k := ?_) | refine cl 28 tt rfl rfl rfl (hr := ls) (k := ?_) | refine cl 15 tt rfl rfl rfl (hr := aw) (k := ?_) | (refine gdLG ?_ ?_ <;> intro _ <;> try (exfalso; omega)))
        | (show awp _ _ _ _; first | refine goA ?_ | (refine cdG ?_ ?_ <;> intro _ <;> try (exfalso; omega)))
        | (show andThen _ _ _ _; refine goN ?_)
        | (show inBlock _ _ _ _; refine goB ?_)
        | (show retPost _ _ _ _ _; refine finG ?_))
      all_goals simp
    · rw [decide_eq_false hxy] at ls
      obtain ⟨H, g1, g2, g3⟩ := small_quot (tr_trim p) p0 ht.trim (Nat.le_trans (trim_len p) lp)
      obtain ⟨l, hl, i2⟩ := isolate_ok hp p0 (by decide) (deep_of p0 g1 g2 g3) ox oy bx bY (Rat.not_lt.1 hxy)
      have is := law05_isolates hp (x, y) ⟨ox.mono (by decide), oy.mono (by decide)⟩ l hl
      clear g1 g2 g3 hl
      generalize trimP p = q at *
      clear hp op ox oy bx bY ht p0
      refine ret_of_awp tab Tryz.func9 rfl rfl (Nat.le_of_ble_eq_true rfl) (fun w0 F0 => ?_)
      repeat' (first
        | (show awpL _ _ _ _ _; first | refine goL ?_ | refine cl 13 tt rfl rfl rfl (hr := sa) (k := ?_) | refine cl 14 tt rfl rfl rfl (hr := n1) (k := ?_) | refine cl 14 tt rfl rfl rfl (hr := n2) (k := ?_) | refine cl 49 tt rfl rfl rfl (hr := i2) (k := ?_) | refine cl 30 tt rfl rfl rfl (hr := dg) (k := ?_) | refine cl 28 tt rfl rfl rfl (hr := ls) (k := ?_) | refine cl 50 tt rfl rfl rfl (hr := is) (k := ?_) | refine cl 15 tt rfl rfl rfl (hr := aw) (k := ?_) | (refine gdLG ?_ ?_ <;> intro _ <;> try (exfalso; omega)))
        | (show awp _ _ _ _; first | refine goA ?_ | (refine cdG ?_ ?_ <;> intro _ <;> try (exfalso; omega)))
        | (show andThen _ _ _ _; refine goN ?_)
        | (show inBlock _ _ _ _; refine goB ?_)
        | (show retPost _ _ _ _ _; refine finG ?_))
      all_goals simp
end Go.Proofs.YtlphlodailailaaGreat
