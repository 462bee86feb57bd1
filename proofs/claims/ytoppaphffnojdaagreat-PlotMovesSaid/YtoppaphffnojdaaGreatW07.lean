/-
  A statement of the seat: what its contract is, and the claim. Conditions: as each says.
-/
import Derived.Test.YtoppaphffnojdaaGreatW06
import Derived.Test.YtoppaphffnojdaaGreatA07
import Derived.Test.YtoppaphffnojdaaGreatA10
set_option linter.unusedVariables false
set_option linter.unusedSimpArgs false
set_option maxHeartbeats 8000000
namespace Go.Proofs.YtoppaphffnojdaaGreat
open Go.Vw
attribute [local irreducible] awp awpL awpR

theorem law40_awake : Ret Tryz.prog 9 [] (· = .bool true) := by
  have f0 := ref03_FromIntW 0 (by decide) (by decide)
  have f1 := ref03_FromIntW 1 (by decide) (by decide)
  have f4 := ref03_FromIntW 4 (by decide) (by decide)
  have k0 : okQ 10 ((0 : Int) : Rat) := ok_intW (by decide)
  have k1 : okQ 10 ((1 : Int) : Rat) := ok_intW (by decide)
  have k4 : okQ 10 ((4 : Int) : Rat) := ok_intW (by decide)
  have hs := plot_Strip [rq ((0 : Int) : Rat), rq ((1 : Int) : Rat), rq ((1 : Int) : Rat), rq ((4 : Int) : Rat)] (rq ((0 : Int) : Rat)) (rq ((4 : Int) : Rat)) 4 (by decide) (fun _ r hr => by
    simp only [List.mem_cons, List.not_mem_nil, or_false] at hr
    rcases hr with h | h | h | h <;> rw [h]
    · exact ok_rq (k0.mono (by decide))
    · exact ok_rq (k1.mono (by decide))
    · exact ok_rq (k1.mono (by decide))
    · exact ok_rq (k4.mono (by decide))) (ok_rq (k0.mono (by decide))) (ok_rq (k4.mono (by decide))) (by decide) (by decide)
  rw [List.map_cons, List.map_cons, List.map_cons, List.map_cons, List.map_nil, rv_rq, rv_rq, rv_rq] at hs
  rw [if_pos (by decide +kernel)] at hs
  rw [show lineB (countsZ ((0 : Int) : Rat) ((4 : Int) : Rat) 4 [((0 : Int) : Rat), ((1 : Int) : Rat), ((1 : Int) : Rat), ((4 : Int) : Rat)]) ++ [10] = [49, 50, 32, 49, 10] by decide +kernel] at hs
  clear k0 k1 k4
  generalize ((0 : Int) : Rat) = q0 at *
  generalize ((1 : Int) : Rat) = q1 at *
  generalize ((4 : Int) : Rat) = q4 at *
  refine ret_of_awp tab Tryz.func9 rfl rfl (Nat.le_of_ble_eq_true rfl) (fun w0 F0 => ?_)
  repeat' (first
    | (show awpL _ _ _ _ _; first | refine goL ?_ | refine cl 17 tt rfl rfl rfl (hr := f0) (k := ?_) | refine cl 17 tt rfl rfl rfl (hr := f1) (k := ?_) | refine cl 17 tt rfl rfl rfl (hr := f4) (k := ?_) | refine cl 19 tt rfl rfl rfl (hr := hs) (k := ?_) | (refine gdLG ?_ ?_ <;> intro _ <;> try (exfalso; omega)))
    | (show awp _ _ _ _; first | refine goA ?_ | (refine cdG ?_ ?_ <;> intro _ <;> try (exfalso; omega)))
    | (show andThen _ _ _ _; refine goN ?_)
    | (show inBlock _ _ _ _; refine goB ?_)
    | (show retPost _ _ _ _ _; refine finG ?_))
  rfl
end Go.Proofs.YtoppaphffnojdaaGreat
