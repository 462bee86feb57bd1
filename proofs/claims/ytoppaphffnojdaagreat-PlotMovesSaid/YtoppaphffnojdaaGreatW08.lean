/-
  A statement of the seat: what its contract is, and the claim. Conditions: as each says.
-/
import Derived.Test.YtoppaphffnojdaaGreatW07
import Derived.Test.YtoppaphffnojdaaGreatA07
import Derived.Test.YtoppaphffnojdaaGreatA10
set_option linter.unusedVariables false
set_option linter.unusedSimpArgs false
set_option maxHeartbeats 8000000
namespace Go.Proofs.YtoppaphffnojdaaGreat
open Go.Vw
attribute [local irreducible] awp awpL awpR

noncomputable def ratW (l : List Int) (a : Nat) : Rat × Nat := Classical.epsilon fun p : Rat × Nat => okQ 10 p.1 ∧ p.2 ≤ l.length ∧ RetB Tryz.prog 26 [.ptr 1000 0] (lookB [(1000, tp l a)]) (.d (qD p.1)) (lookB [(1000, tp l p.2)])
theorem ratW_spec (l : List Int) (a : Nat) (hl : l.length ≤ 400) (hx : I64 l) (ha : a ≤ l.length) : okQ 10 (ratW l a).1 ∧ (ratW l a).2 ≤ l.length ∧ RetB Tryz.prog 26 [.ptr 1000 0] (lookB [(1000, tp l a)]) (.d (qD (ratW l a).1)) (lookB [(1000, tp l (ratW l a).2)]) := by
  obtain ⟨q, b, h1, h2, h3⟩ := world_Rat l a hl hx ha
  exact Classical.epsilon_spec (p := fun p : Rat × Nat => okQ 10 p.1 ∧ p.2 ≤ l.length ∧ RetB Tryz.prog 26 [.ptr 1000 0] (lookB [(1000, tp l a)]) (.d (qD p.1)) (lookB [(1000, tp l p.2)])) ⟨(q, b), h1, h2, h3⟩
noncomputable def nextW (l : List Int) (a : Nat) (n : Int) : Int × Nat := Classical.epsilon fun p : Int × Nat => 0 ≤ p.1 ∧ (p.1 < n ∨ p.1 = 0) ∧ p.2 ≤ l.length ∧ RetB Tryz.prog 18 [.ptr 1000 0, .d (.int .i64 n)] (lookB [(1000, tp l a)]) (.d (.int .i64 p.1)) (lookB [(1000, tp l p.2)])
theorem nextW_spec (l : List Int) (a : Nat) (n : Int) (hl : l.length ≤ 400) (hx : I64 l) (ha : a ≤ l.length) (h1 : -9223372036854775808 ≤ n) (h2 : n < 1000000) : 0 ≤ (nextW l a n).1 ∧ ((nextW l a n).1 < n ∨ (nextW l a n).1 = 0) ∧ (nextW l a n).2 ≤ l.length ∧ RetB Tryz.prog 18 [.ptr 1000 0, .d (.int .i64 n)] (lookB [(1000, tp l a)]) (.d (.int .i64 (nextW l a n).1)) (lookB [(1000, tp l (nextW l a n).2)]) := by
  obtain ⟨r, b, g1, g2, g3, g4⟩ := world_Next l a n hl hx ha h1 h2
  exact Classical.epsilon_spec (p := fun p : Int × Nat => 0 ≤ p.1 ∧ (p.1 < n ∨ p.1 = 0) ∧ p.2 ≤ l.length ∧ RetB Tryz.prog 18 [.ptr 1000 0, .d (.int .i64 n)] (lookB [(1000, tp l a)]) (.d (.int .i64 p.1)) (lookB [(1000, tp l p.2)])) ⟨(r, b), g1, g2, g3, g4⟩
noncomputable def boolW (l : List Int) (a : Nat) (n : Int) : Bool × Nat := Classical.epsilon fun p : Bool × Nat => p.2 ≤ l.length ∧ RetB Tryz.prog 12 [.ptr 1000 0, .d (.int .i64 n)] (lookB [(1000, tp l a)]) (.d (.bool p.1)) (lookB [(1000, tp l p.2)])
theorem boolW_spec (l : List Int) (a : Nat) (n : Int) (hl : l.length ≤ 400) (hx : I64 l) (ha : a ≤ l.length) (h1 : -9223372036854775807 ≤ n) (h2 : n < 1000000) : (boolW l a n).2 ≤ l.length ∧ RetB Tryz.prog 12 [.ptr 1000 0, .d (.int .i64 n)] (lookB [(1000, tp l a)]) (.d (.bool (boolW l a n).1)) (lookB [(1000, tp l (boolW l a n).2)]) := by
  obtain ⟨r, b, g1, g2⟩ := world_Bool l a n hl hx ha h1 h2
  exact Classical.epsilon_spec (p := fun p : Bool × Nat => p.2 ≤ l.length ∧ RetB Tryz.prog 12 [.ptr 1000 0, .d (.int .i64 n)] (lookB [(1000, tp l a)]) (.d (.bool p.1)) (lookB [(1000, tp l p.2)])) ⟨(r, b), g1, g2⟩
noncomputable def valsW (l : List Int) : Nat → List Rat → Nat → List Rat × Nat
  | 0, vs, a => (vs, a)
  | k + 1, vs, a => if (boolW l (ratW l a).2 4).1 = true then valsW l k (vs ++ [vs.getD (nextW l (boolW l (ratW l a).2 4).2 vs.length).1.toNat 0]) (nextW l (boolW l (ratW l a).2 4).2 vs.length).2 else valsW l k (vs ++ [(ratW l a).1]) (boolW l (ratW l a).2 4).2
theorem valsW_ok (l : List Int) (hl : l.length ≤ 400) (hx : I64 l) : ∀ (k : Nat) (vs : List Rat) (a : Nat), a ≤ l.length → 1 ≤ vs.length → vs.length + k < 1000 → (∀ q ∈ vs, okQ 10 q) → (valsW l k vs a).1.length = vs.length + k ∧ (valsW l k vs a).2 ≤ l.length ∧ ∀ q ∈ (valsW l k vs a).1, okQ 10 q
  | 0, vs, a, ha, h1, h2, h3 => ⟨rfl, ha, h3⟩
  | k + 1, vs, a, ha, h1, h2, h3 => by
    obtain ⟨r1, r2, _⟩ := ratW_spec l a hl hx ha
    obtain ⟨b1, _⟩ := boolW_spec l (ratW l a).2 4 hl hx r2 (by decide) (by decide)
    unfold valsW
    split
    · obtain ⟨n1, n2, n3, _⟩ := nextW_spec l (boolW l (ratW l a).2 4).2 vs.length hl hx b1 (by omega) (by omega)
      have := valsW_ok l hl hx k (vs ++ [vs.getD (nextW l (boolW l (ratW l a).2 4).2 vs.length).1.toNat 0]) (nextW l (boolW l (ratW l a).2 4).2 vs.length).2 n3 (by simp) (by simp; omega) (by
        intro q hq
        rcases List.mem_append.1 hq with h | h
        · exact h3 q h
        · rw [List.mem_singleton.1 h]
          exact getD_ok h3 (by omega))
      simp only [List.length_append, List.length_singleton] at this
      exact ⟨by omega, this.2⟩
    · have := valsW_ok l hl hx k (vs ++ [(ratW l a).1]) (boolW l (ratW l a).2 4).2 b1 (by simp) (by simp; omega) (by
        intro q hq
        rcases List.mem_append.1 hq with h | h
        · exact h3 q h
        · rw [List.mem_singleton.1 h]; exact r1)
      simp only [List.length_append, List.length_singleton] at this
      exact ⟨by omega, this.2⟩
theorem world_Values (l : List Int) (a : Nat) (n : Int) (hl : l.length ≤ 400) (hx : I64 l) (ha : a ≤ l.length) (h1 : 1 ≤ n) (h2 : n < 900) : ∃ (vs : List Rat) (b : Nat), 1 ≤ vs.length ∧ vs.length ≤ n.toNat ∧ (∀ q ∈ vs, okQ 10 q) ∧ b ≤ l.length ∧ RetB Tryz.prog 16 [.ptr 1000 0, .d (.int .i64 n)] (lookB [(1000, tp l a)]) (.d (qsD vs)) (lookB [(1000, tp l b)]) := by
  obtain ⟨r1, r2, hR⟩ := ratW_spec l a hl hx ha
  obtain ⟨n1, n2, n3, hN⟩ := nextW_spec l (ratW l a).2 n hl hx r2 (by omega) (by omega)
  generalize ratW l a = x0 at *
  obtain ⟨q0, a1⟩ := x0
  simp only at r1 r2 hR n1 n2 n3 hN
  generalize nextW l a1 n = k0 at *
  obtain ⟨k, a2⟩ := k0
  simp only at n1 n2 n3 hN
  obtain ⟨k, rfl⟩ : ∃ m : Nat, k = m := ⟨k.toNat, by omega⟩
  have hfin := valsW_ok l hl hx k [q0] a2 n3 (by simp) (by simp; omega) (by intro q hq; rw [List.mem_singleton.1 hq]; exact r1)
  refine ⟨(valsW l k [q0] a2).1, (valsW l k [q0] a2).2, by rw [hfin.1]; simp, by rw [hfin.1]; simp; omega, hfin.2.2, hfin.2.1, ?_⟩
  obtain ⟨F, hF⟩ : ∃ F, valsW l k [q0] a2 = F := ⟨_, rfl⟩
  rw [hF]
  refine retB_of_awp tab [1000] Tryz.func16 rfl rfl rfl (Nat.le_of_ble_eq_true rfl) rfl ⟨Nat.le_refl _, trivial⟩ (fun w0 F0 A io0 => ?_)
  repeat' (first
    | (show awpL _ _ _ _ _; first | refine stepLitO (d := 10) (en := qC) (z := 0) rfl rfl rfl rfl rfl (LeR.cons rfl leL LeR.nil) ?_ | refine goL ?_ | refine clB 26 [] (hR) tt rfl rfl rfl rfl rfl rfl leVT allB ?_ | refine clB 18 [] (hN) tt rfl rfl rfl rfl rfl rfl leVT allB ?_ | (refine gdLG ?_ ?_ <;> intro _ <;> try (exfalso; omega)))
    | (show awp _ _ _ _; first | refine goA ?_ | (refine cdG ?_ ?_ <;> intro _ <;> try (exfalso; omega)))
    | (show andThen _ _ _ _; refine goN ?_)
    | (show inBlock _ _ _ _; refine goB ?_)
    | (show retPost _ _ _ _ _; refine finG ?_)
    | (show retPostB _ _ _ _ _ _; first | refine finB rfl rfl ?_ ?_ | refine finBT rfl rfl rfl ?_ ?_))
  refine awp_loop3 (fun (vs : List Rat) (b : Nat) (i : Nat) => ([(0, .ptr 1000 0), (5, .own 10 0 vs.length 27 3), (6, .d (.int .i64 i))], [(1000, tp l b), (10, .data 27 3 qC 0 vs)])) (fun vs b i => b ≤ l.length ∧ 1 ≤ vs.length ∧ vs.length + i < 1000 ∧ (∀ q ∈ vs, okQ 10 q) ∧ valsW l i vs b = F) (fun vs b i => i) [q0] a2 k ⟨n3, by simp, by simp; omega, by intro q hq; rw [List.mem_singleton.1 hq]; exact r1, hF⟩ ⟨rfl, rfl, rfl, rfl⟩ ⟨rfl, rfl, trivial⟩ (fun vs b i hi => ?_)
  obtain ⟨i1, i2, i3, i4, i5⟩ := hi
  by_cases hi0 : i = 0
  · subst hi0
    have e : F = (vs, b) := i5.symm
    subst e
    repeat' (first
      | (show awpL _ _ _ _ _; first | refine goL ?_ | (refine gdLG ?_ ?_ <;> intro _ <;> try (exfalso; omega)))
      | (show awp _ _ _ _; first | refine stopA 9 tt ?_)
      | (show awp _ _ _ _; first | refine goA ?_ | (refine cdG ?_ ?_ <;> intro _ <;> try (exfalso; omega)))
      | (show andThen _ _ _ _; refine goN ?_)
      | (show inBlock _ _ _ _; refine goB ?_)
      | (show retPost _ _ _ _ _; refine finG ?_)
      | (show retPostB _ _ _ _ _ _; first | refine finB rfl rfl ?_ ?_ | refine finBT rfl rfl rfl ?_ ?_))
    refine stopOut ?_
    refine awp_frz 10 rfl ?_
    repeat' (first
      | (show awpL _ _ _ _ _; first | refine goL ?_ | (refine gdLG ?_ ?_ <;> intro _ <;> try (exfalso; omega)))
      | (show awp _ _ _ _; first | refine goA ?_ | (refine cdG ?_ ?_ <;> intro _ <;> try (exfalso; omega)))
      | (show andThen _ _ _ _; refine goN ?_)
      | (show inBlock _ _ _ _; refine goB ?_)
      | (show retPost _ _ _ _ _; refine finG ?_)
      | (show retPostB _ _ _ _ _ _; first | refine finB rfl rfl ?_ ?_ | refine finBT rfl rfl rfl ?_ ?_))
    all_goals first | exact leVT | exact ⟨rfl, trivial⟩
  · obtain ⟨j, rfl⟩ : ∃ j, i = j + 1 := ⟨i - 1, by omega⟩
    obtain ⟨r1', r2', hR2⟩ := ratW_spec l b hl hx i1
    unfold valsW at i5
    generalize ratW l b = x1 at *
    obtain ⟨q1, b1⟩ := x1
    simp only at r1' r2' hR2 i5
    obtain ⟨b1', hB⟩ := boolW_spec l b1 4 hl hx r2' (by decide) (by decide)
    generalize boolW l b1 4 = x2 at *
    obtain ⟨t, b2⟩ := x2
    simp only at b1' hB i5
    cases t
    · rw [if_neg (by decide)] at i5
      have hk : ∀ q ∈ vs ++ [q1], okQ 10 q := by
        intro q hq
        rcases List.mem_append.1 hq with h | h
        · exact i4 q h
        · rw [List.mem_singleton.1 h]; exact r1'
      have keep := And.intro hk i5
      clear hk i5 i4 hfin hF
      repeat' (first
        | (show awpL _ _ _ _ _; first | refine goL ?_ | refine clB 26 [] (hR2) tt rfl rfl rfl rfl rfl rfl leVT allB ?_ | refine clB 12 [] (hB) tt rfl rfl rfl rfl rfl rfl leVT allB ?_ | (refine gdLG ?_ ?_ <;> intro _ <;> try (exfalso; omega)))
        | (show awp _ _ _ _; first | refine goA ?_ | (refine cdG ?_ ?_ <;> intro _ <;> try (exfalso; omega)))
        | (show andThen _ _ _ _; refine goN ?_)
        | (show inBlock _ _ _ _; refine goB ?_)
        | (show retPost _ _ _ _ _; refine finG ?_)
        | (show retPostB _ _ _ _ _ _; first | refine finB rfl rfl ?_ ?_ | refine finBT rfl rfl rfl ?_ ?_))
      exact ⟨vs ++ [q1], b2, j, ⟨b1', by simp, by simp; omega, keep.1, keep.2⟩, by omega, ⟨rfl, by simp; rfl, iv (by omega), rfl⟩, rfl, rfl, trivial⟩
    · rw [if_pos rfl] at i5
      obtain ⟨n1', n2', n3', hN2⟩ := nextW_spec l b2 (vs.length : Int) hl hx b1' (by omega) (by omega)
      generalize nextW l b2 (vs.length : Int) = x3 at *
      obtain ⟨z, b3⟩ := x3
      simp only at n1' n2' n3' hN2 i5
      have hz : z.toNat < vs.length := by omega
      have hk : ∀ q ∈ vs ++ [vs.getD z.toNat 0], okQ 10 q := by
        intro q hq
        rcases List.mem_append.1 hq with h | h
        · exact i4 q h
        · rw [List.mem_singleton.1 h]; exact getD_ok i4 hz
      have keep := And.intro hk i5
      clear hk i5 i4 hfin hF
      repeat' (first
        | (show awpL _ _ _ _ _; first | refine goL ?_ | refine clB 26 [] (hR2) tt rfl rfl rfl rfl rfl rfl leVT allB ?_ | refine clB 12 [] (hB) tt rfl rfl rfl rfl rfl rfl leVT allB ?_ | refine clB 18 [] (hN2) tt rfl rfl rfl rfl rfl rfl leVT allB ?_ | (refine gdLG ?_ ?_ <;> intro _ <;> try (exfalso; omega)))
        | (show awp _ _ _ _; first | refine goA ?_ | (refine cdG ?_ ?_ <;> intro _ <;> try (exfalso; omega)))
        | (show andThen _ _ _ _; refine goN ?_)
        | (show inBlock _ _ _ _; refine goB ?_)
        | (show retPost _ _ _ _ _; refine finG ?_)
        | (show retPostB _ _ _ _ _ _; first | refine finB rfl rfl ?_ ?_ | refine finBT rfl rfl rfl ?_ ?_))
      exact ⟨vs ++ [vs.getD z.toNat 0], b3, j, ⟨n3', by simp, by simp; omega, keep.1, keep.2⟩, by omega, ⟨rfl, by simp; rfl, iv (by omega), rfl⟩, rfl, rfl, trivial⟩
end Go.Proofs.YtoppaphffnojdaaGreat
