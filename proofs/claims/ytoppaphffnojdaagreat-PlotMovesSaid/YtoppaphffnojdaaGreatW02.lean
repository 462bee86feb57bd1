/-
  A statement of the seat: what its contract is, and the claim. Conditions: as each says.
-/
import Derived.Test.YtoppaphffnojdaaGreatA09
import Derived.Test.YtoppaphffnojdaaGreatA06
import Derived.Test.YtoppaphffnojdaaGreatA10
set_option linter.unusedVariables false
set_option linter.unusedSimpArgs false
set_option maxHeartbeats 4000000
namespace Go.Proofs.YtoppaphffnojdaaGreat
open Go.Vw
attribute [local irreducible] awp awpL awpR

theorem world_Odd (l : List Int) (a : Nat) (hl : l.length ≤ 400) (hx : I64 l) (ha : a ≤ l.length) : ∃ (x : R3) (b : Nat), RatOk x 20 ∧ b ≤ l.length ∧ RetB Tryz.prog 11 [.ptr 1000 0] (lookB [(1000, tp l a)]) (.d (rD x)) (lookB [(1000, tp l b)]) := by
  obtain ⟨q, b, q1, q2, h1⟩ := world_Rat l a hl hx ha
  obtain ⟨r, c, r1, r2, r3, h2⟩ := world_Next l b 24 hl hx q2 (by decide) (by decide)
  have ok := ok_rq q1
  have h1 : RetB Tryz.prog 26 [.ptr 1000 0] (lookB [(1000, tp l a)]) (.d (rD (rq q))) (lookB [(1000, tp l b)]) := h1
  generalize rq q = x at *
  obtain ⟨ng, m, d⟩ := x
  obtain ⟨o1, o2, o3, o4⟩ := ok
  simp only at o1 o2 o3 o4
  by_cases c1 : r = 20
  · subst c1
    refine ⟨(ng, m, [1]), c, ⟨o1, by intro z hz; simp at hz; subst hz; decide, by show m.length < 20; omega, by show 1 < 20; decide⟩, r3, ?_⟩
    refine retB_of_awp tab [1000] Tryz.func11 rfl rfl rfl (Nat.le_of_ble_eq_true rfl) rfl ⟨Nat.le_refl _, trivial⟩ (fun w0 F0 A io0 => ?_)
    repeat' (first
      | (show awpL _ _ _ _ _; first | refine goL ?_ | refine clB 26 [] (h1) tt rfl rfl rfl rfl rfl rfl leVT allB ?_ | refine clB 18 [] (h2) tt rfl rfl rfl rfl rfl rfl leVT allB ?_ | (refine gdLG ?_ ?_ <;> intro _ <;> try (exfalso; omega)))
      | (show awp _ _ _ _; first | refine goA ?_ | (refine cdG ?_ ?_ <;> intro _ <;> try (exfalso; omega)))
      | (show andThen _ _ _ _; refine goN ?_)
      | (show inBlock _ _ _ _; refine goB ?_)
      | (show retPost _ _ _ _ _; refine finG ?_)
      | (show retPostB _ _ _ _ _ _; first | refine finB rfl rfl ?_ ?_ | refine finBT rfl rfl rfl ?_ ?_))
    all_goals first | exact leVT | exact LeVT.consD (LeD.agg leL) leVT | exact ⟨rfl, trivial⟩
  by_cases c2 : r = 21
  · subst c2
    refine ⟨(ng, m ++ [0], d), c, ⟨by intro z hz; simp at hz; rcases hz with hz | hz; exact o1 z hz; subst hz; decide, o2, by show (m ++ [0]).length < 20; simp; omega, by show d.length < 20; omega⟩, r3, ?_⟩
    refine retB_of_awp tab [1000] Tryz.func11 rfl rfl rfl (Nat.le_of_ble_eq_true rfl) rfl ⟨Nat.le_refl _, trivial⟩ (fun w0 F0 A io0 => ?_)
    repeat' (first
      | (show awpL _ _ _ _ _; first | refine goL ?_ | refine clB 26 [] (h1) tt rfl rfl rfl rfl rfl rfl leVT allB ?_ | refine clB 18 [] (h2) tt rfl rfl rfl rfl rfl rfl leVT allB ?_ | (refine gdLG ?_ ?_ <;> intro _ <;> try (exfalso; omega)))
      | (show awp _ _ _ _; first | refine stopA 11 tt ?_)
      | (show awp _ _ _ _; first | refine goA ?_ | (refine cdG ?_ ?_ <;> intro _ <;> try (exfalso; omega)))
      | (show andThen _ _ _ _; refine goN ?_)
      | (show inBlock _ _ _ _; refine goB ?_)
      | (show retPost _ _ _ _ _; refine finG ?_)
      | (show retPostB _ _ _ _ _ _; first | refine finB rfl rfl ?_ ?_ | refine finBT rfl rfl rfl ?_ ?_))
    refine stopOut ?_
    refine awp_frz 17 rfl ?_
    repeat' (first
      | (show awpL _ _ _ _ _; first | refine goL ?_ | (refine gdLG ?_ ?_ <;> intro _ <;> try (exfalso; omega)))
      | (show awp _ _ _ _; first | refine goA ?_ | (refine cdG ?_ ?_ <;> intro _ <;> try (exfalso; omega)))
      | (show andThen _ _ _ _; refine goN ?_)
      | (show inBlock _ _ _ _; refine goB ?_)
      | (show retPost _ _ _ _ _; refine finG ?_)
      | (show retPostB _ _ _ _ _ _; first | refine finB rfl rfl ?_ ?_ | refine finBT rfl rfl rfl ?_ ?_))
    all_goals first | exact leVT | exact LeVT.consD (LeD.agg (LeL.cons (LeD.refl _) (LeL.cons LeD.full (LeL.cons (LeD.refl _) LeL.nil)))) leVT | exact LeVT.consD (LeD.agg leL) leVT | exact ⟨rfl, trivial⟩
  by_cases c3 : r = 22
  · subst c3
    refine ⟨(true, [], []), c, ⟨by intro z hz; simp at hz, by intro z hz; simp at hz, by decide, by decide⟩, r3, ?_⟩
    refine retB_of_awp tab [1000] Tryz.func11 rfl rfl rfl (Nat.le_of_ble_eq_true rfl) rfl ⟨Nat.le_refl _, trivial⟩ (fun w0 F0 A io0 => ?_)
    repeat' (first
      | (show awpL _ _ _ _ _; first | refine goL ?_ | refine clB 26 [] (h1) tt rfl rfl rfl rfl rfl rfl leVT allB ?_ | refine clB 18 [] (h2) tt rfl rfl rfl rfl rfl rfl leVT allB ?_ | (refine gdLG ?_ ?_ <;> intro _ <;> try (exfalso; omega)))
      | (show awp _ _ _ _; first | refine goA ?_ | (refine cdG ?_ ?_ <;> intro _ <;> try (exfalso; omega)))
      | (show andThen _ _ _ _; refine goN ?_)
      | (show inBlock _ _ _ _; refine goB ?_)
      | (show retPost _ _ _ _ _; refine finG ?_)
      | (show retPostB _ _ _ _ _ _; first | refine finB rfl rfl ?_ ?_ | refine finBT rfl rfl rfl ?_ ?_))
    all_goals first | exact leVT | exact LeVT.consD (LeD.agg leL) leVT | exact ⟨rfl, trivial⟩
  by_cases c4 : r = 23
  · subst c4
    refine ⟨(false, [2], [4]), c, ⟨by intro z hz; simp at hz; subst hz; decide, by intro z hz; simp at hz; subst hz; decide, by decide, by decide⟩, r3, ?_⟩
    refine retB_of_awp tab [1000] Tryz.func11 rfl rfl rfl (Nat.le_of_ble_eq_true rfl) rfl ⟨Nat.le_refl _, trivial⟩ (fun w0 F0 A io0 => ?_)
    repeat' (first
      | (show awpL _ _ _ _ _; first | refine goL ?_ | refine clB 26 [] (h1) tt rfl rfl rfl rfl rfl rfl leVT allB ?_ | refine clB 18 [] (h2) tt rfl rfl rfl rfl rfl rfl leVT allB ?_ | (refine gdLG ?_ ?_ <;> intro _ <;> try (exfalso; omega)))
      | (show awp _ _ _ _; first | refine goA ?_ | (refine cdG ?_ ?_ <;> intro _ <;> try (exfalso; omega)))
      | (show andThen _ _ _ _; refine goN ?_)
      | (show inBlock _ _ _ _; refine goB ?_)
      | (show retPost _ _ _ _ _; refine finG ?_)
      | (show retPostB _ _ _ _ _ _; first | refine finB rfl rfl ?_ ?_ | refine finBT rfl rfl rfl ?_ ?_))
    all_goals first | exact leVT | exact LeVT.consD (LeD.agg leL) leVT | exact ⟨rfl, trivial⟩
  · refine ⟨(ng, m, d), c, ⟨o1, o2, by show m.length < 20; omega, by show d.length < 20; omega⟩, r3, ?_⟩
    refine retB_of_awp tab [1000] Tryz.func11 rfl rfl rfl (Nat.le_of_ble_eq_true rfl) rfl ⟨Nat.le_refl _, trivial⟩ (fun w0 F0 A io0 => ?_)
    repeat' (first
      | (show awpL _ _ _ _ _; first | refine goL ?_ | refine clB 26 [] (h1) tt rfl rfl rfl rfl rfl rfl leVT allB ?_ | refine clB 18 [] (h2) tt rfl rfl rfl rfl rfl rfl leVT allB ?_ | (refine gdLG ?_ ?_ <;> intro _ <;> try (exfalso; omega)))
      | (show awp _ _ _ _; first | refine goA ?_ | (refine cdG ?_ ?_ <;> intro _ <;> try (exfalso; omega)))
      | (show andThen _ _ _ _; refine goN ?_)
      | (show inBlock _ _ _ _; refine goB ?_)
      | (show retPost _ _ _ _ _; refine finG ?_)
      | (show retPostB _ _ _ _ _ _; first | refine finB rfl rfl ?_ ?_ | refine finBT rfl rfl rfl ?_ ?_))
    all_goals first | exact leVT | exact LeVT.consD (LeD.agg leL) leVT | exact ⟨rfl, trivial⟩
end Go.Proofs.YtoppaphffnojdaaGreat
