/-
  A statement of the seat: what its contract is, and the claim. Conditions: as each says.
-/
import Derived.Test.YtlphlodailailaaGreatY15
import Derived.Test.YtlphlodailailaaGreatA09
set_option linter.unusedVariables false
set_option linter.unusedSimpArgs false
set_option maxHeartbeats 8000000
namespace Go.Proofs.YtlphlodailailaaGreat
open Go.Vw
attribute [local irreducible] awp awpL awpR

theorem enc_true (p : List R3) (a b x : R3) (hp : ∀ r ∈ p, RawR r) (ha : RawR a) (hb : RawR b) (hx : RawR x) (np : p.length ≤ 9223372036854775807) : Ret Tryz.prog 8 [rsD p, iD a b, rD x] (· = .bool true) := by
  have aw := law05_awake
  have l1 := made_LightList p 5 hp np (by decide)
  have l2 := made_LightInterval a b ha hb
  have l3 := made_LightR x hx
  rw [show (decide (p.length ≤ 5) && p.all lightR) = lightLs p 5 from rfl] at l1
  by_cases hL : lightLs p 5 = true
  · rw [hL] at l1
    obtain ⟨p5, op⟩ := lightLs_ok hp hL
    by_cases hI : (lightR a && lightR b) = true
    · rw [hI] at l2
      simp only [Bool.and_eq_true] at hI
      have oa := ha.light hI.1
      have ob := hb.light hI.2
      by_cases hX : lightR x = true
      · rw [hX] at l3
        have ox := hx.light hX
        have ct := ref04_Contains a b x (oa.up (by decide)) (ob.up (by decide)) (ox.up (by decide))
        by_cases hc : containsI (takeI (rv a) (rv b)) (rv x) = true
        · rw [hc] at ct
          have hin : In (takeI (rv a) (rv b)) (rv x) := by
            unfold containsI at hc
            simp only [Bool.and_eq_true, decide_eq_true_eq] at hc
            exact hc
          have e1 := polynomial_Enclose p a b (by omega) (fun r hr => (op r hr).up (by decide)) (oa.up (by decide)) (ob.up (by decide))
          have e2 := ref05_Eval p x 9 9 (by omega) op ox (by decide) (by decide) (by decide)
          have hin2 := encK_in (p := trimP (p.map rv)) hin _ (Nat.le_refl _)
          rw [horn_all, eval_trim] at hin2
          have pl := trim_len (p.map rv)
          rw [List.length_map] at pl
          have kt : ∀ y ∈ trimP (p.map rv), okQ 9 y := fun y hy => by
            obtain ⟨r, hr, rfl⟩ := List.mem_map.1 (trim_mem hy)
            exact okQ_rv (op r hr) (by decide)
          have kp : ∀ y ∈ p.map rv, okQ 9 y := fun y hy => by
            obtain ⟨r, hr, rfl⟩ := List.mem_map.1 hy
            exact okQ_rv (op r hr) (by decide)
          have oE := (encK_ok kt (takeI_ok (okQ_rv oa (by decide)) (okQ_rv ob (by decide)) (by decide)) (by decide) _ (Nat.le_refl _)).mono (show _ ≤ 2 + 5 * (9 + 9) by
            have := Nat.mul_le_mul_right (9 + 9) (show (trimP (p.map rv)).length ≤ 5 by omega)
            omega)
          have oV := (horn_ok kp (okQ_rv ox (by decide)) (by decide) _ (Nat.le_refl _)).mono (show _ ≤ 2 + 5 * (9 + 9) by
            rw [List.length_map]
            have := Nat.mul_le_mul_right (9 + 9) p5
            omega)
          rw [horn_all] at oV
          have lE := encK_le (p := trimP (p.map rv)) (takeI_le (rv a) (rv b)) _ (Nat.le_refl _)
          generalize encK (trimP (p.map rv)) (takeI (rv a) (rv b)) (trimP (p.map rv)).length = E at *
          generalize evalP (p.map rv) (rv x) = v at *
          have ct2 := ref04_Contains (rq E.1) (rq E.2) (rq v) (ok_rq (oE.1.mono (by decide))) (ok_rq (oE.2.mono (by decide))) (ok_rq (oV.mono (by decide)))
          rw [rv_rq, rv_rq, rv_rq, takeI_of lE, show containsI (E.1, E.2) v = true by unfold containsI; simp only [Bool.and_eq_true, decide_eq_true_eq]; exact hin2] at ct2
          clear hp ha hb hx hin hin2 kt kp oE oV lE op
          refine ret_of_awp tab Tryz.func8 rfl rfl (Nat.le_of_ble_eq_true rfl) (fun w0 F0 => ?_)
          repeat' (first
            | (show awpL _ _ _ _ _; first | refine goL ?_ | refine cl 34 tt rfl rfl rfl (hr := l1) (k := ?_) | refine cl 45 tt rfl rfl rfl (hr := l2) (k := ?_) | refine cl 35 tt rfl rfl rfl (hr := l3) (k := ?_) | refine cl 46 tt rfl rfl rfl (hr := ct) (k := ?_) | refine cl 46 tt rfl rfl rfl (hr := ct2) (k := ?_) | refine cl 15 tt rfl rfl rfl (hr := aw) (k := ?_) | refine cl 47 tt rfl rfl rfl (hr := e1) (k := ?_) | refine cl 48 tt rfl rfl rfl (hr := e2) (k := ?_) | (refine gdLG ?_ ?_ <;> intro _ <;> try (exfalso; omega)))
            | (show awp _ _ _ _; first | refine goA ?_ | refine rg 3 7 ?_ | (refine cdG ?_ ?_ <;> intro _ <;> try (exfalso; omega)))
            | (show andThen _ _ _ _; refine goN ?_)
            | (show inBlock _ _ _ _; refine goB ?_)
            | (show awpR _ _ _ _ _ _ _; first | refine goR ?_ | refine clR 34 tt rfl rfl rfl (hr := l1) (k := ?_) | refine clR 45 tt rfl rfl rfl (hr := l2) (k := ?_) | refine clR 35 tt rfl rfl rfl (hr := l3) (k := ?_) | refine clR 46 tt rfl rfl rfl (hr := ct) (k := ?_) | refine clR 46 tt rfl rfl rfl (hr := ct2) (k := ?_) | refine clR 15 tt rfl rfl rfl (hr := aw) (k := ?_) | refine clR 47 tt rfl rfl rfl (hr := e1) (k := ?_) | refine clR 48 tt rfl rfl rfl (hr := e2) (k := ?_) | (refine gdRG ?_ ?_ <;> intro _ <;> try (exfalso; omega)))
            | (show retPost _ _ _ _ _; refine finG ?_))
          all_goals rfl
        · rw [Bool.eq_false_iff.2 hc] at ct
          clear hp ha hb hx op
          refine ret_of_awp tab Tryz.func8 rfl rfl (Nat.le_of_ble_eq_true rfl) (fun w0 F0 => ?_)
          repeat' (first
            | (show awpL _ _ _ _ _; first | refine goL ?_ | refine cl 34 tt rfl rfl rfl (hr := l1) (k := ?_) | refine cl 45 tt rfl rfl rfl (hr := l2) (k := ?_) | refine cl 35 tt rfl rfl rfl (hr := l3) (k := ?_) | refine cl 46 tt rfl rfl rfl (hr := ct) (k := ?_) | refine cl 15 tt rfl rfl rfl (hr := aw) (k := ?_) | (refine gdLG ?_ ?_ <;> intro _ <;> try (exfalso; omega)))
            | (show awp _ _ _ _; first | refine goA ?_ | refine rg 3 7 ?_ | (refine cdG ?_ ?_ <;> intro _ <;> try (exfalso; omega)))
            | (show andThen _ _ _ _; refine goN ?_)
            | (show inBlock _ _ _ _; refine goB ?_)
            | (show awpR _ _ _ _ _ _ _; first | refine goR ?_ | refine clR 34 tt rfl rfl rfl (hr := l1) (k := ?_) | refine clR 45 tt rfl rfl rfl (hr := l2) (k := ?_) | refine clR 35 tt rfl rfl rfl (hr := l3) (k := ?_) | refine clR 46 tt rfl rfl rfl (hr := ct) (k := ?_) | refine clR 15 tt rfl rfl rfl (hr := aw) (k := ?_) | (refine gdRG ?_ ?_ <;> intro _ <;> try (exfalso; omega)))
            | (show retPost _ _ _ _ _; refine finG ?_))
          all_goals rfl
      · rw [Bool.eq_false_iff.2 hX] at l3
        clear hp ha hb hx op
        refine ret_of_awp tab Tryz.func8 rfl rfl (Nat.le_of_ble_eq_true rfl) (fun w0 F0 => ?_)
        repeat' (first
          | (show awpL _ _ _ _ _; first | refine goL ?_ | refine cl 34 tt rfl rfl rfl (hr := l1) (k := ?_) | refine cl 45 tt rfl rfl rfl (hr := l2) (k := ?_) | refine cl 35 tt rfl rfl rfl (hr := l3) (k := ?_) | refine cl 15 tt rfl rfl rfl (hr := aw) (k := ?_) | (refine gdLG ?_ ?_ <;> intro _ <;> try (exfalso; omega)))
          | (show awp _ _ _ _; first | refine goA ?_ | refine rg 3 7 ?_ | (refine cdG ?_ ?_ <;> intro _ <;> try (exfalso; omega)))
          | (show andThen _ _ _ _; refine goN ?_)
          | (show inBlock _ _ _ _; refine goB ?_)
          | (show awpR _ _ _ _ _ _ _; first | refine goR ?_ | refine clR 34 tt rfl rfl rfl (hr := l1) (k := ?_) | refine clR 45 tt rfl rfl rfl (hr := l2) (k := ?_) | refine clR 35 tt rfl rfl rfl (hr := l3) (k := ?_) | refine clR 15 tt rfl rfl rfl (hr := aw) (k := ?_) | (refine gdRG ?_ ?_ <;> intro _ <;> try (exfalso; omega)))
          | (show retPost _ _ _ _ _; refine finG ?_))
        all_goals rfl
    · rw [Bool.eq_false_iff.2 hI] at l2
      clear hp ha hb hx op
      refine ret_of_awp tab Tryz.func8 rfl rfl (Nat.le_of_ble_eq_true rfl) (fun w0 F0 => ?_)
      repeat' (first
        | (show awpL _ _ _ _ _; first | refine goL ?_ | refine cl 34 tt rfl rfl rfl (hr := l1) (k := ?_) | refine cl 45 tt rfl rfl rfl (hr := l2) (k := ?_) | refine cl 15 tt rfl rfl rfl (hr := aw) (k := ?_) | (refine gdLG ?_ ?_ <;> intro _ <;> try (exfalso; omega)))
        | (show awp _ _ _ _; first | refine goA ?_ | refine rg 3 7 ?_ | (refine cdG ?_ ?_ <;> intro _ <;> try (exfalso; omega)))
        | (show andThen _ _ _ _; refine goN ?_)
        | (show inBlock _ _ _ _; refine goB ?_)
        | (show awpR _ _ _ _ _ _ _; first | refine goR ?_ | refine clR 34 tt rfl rfl rfl (hr := l1) (k := ?_) | refine clR 45 tt rfl rfl rfl (hr := l2) (k := ?_) | refine clR 15 tt rfl rfl rfl (hr := aw) (k := ?_) | (refine gdRG ?_ ?_ <;> intro _ <;> try (exfalso; omega)))
        | (show retPost _ _ _ _ _; refine finG ?_))
      all_goals rfl
  · rw [Bool.eq_false_iff.2 hL] at l1
    clear hp ha hb hx
    refine ret_of_awp tab Tryz.func8 rfl rfl (Nat.le_of_ble_eq_true rfl) (fun w0 F0 => ?_)
    repeat' (first
      | (show awpL _ _ _ _ _; first | refine goL ?_ | refine cl 34 tt rfl rfl rfl (hr := l1) (k := ?_) | refine cl 15 tt rfl rfl rfl (hr := aw) (k := ?_) | (refine gdLG ?_ ?_ <;> intro _ <;> try (exfalso; omega)))
      | (show awp _ _ _ _; first | refine goA ?_ | refine rg 3 7 ?_ | (refine cdG ?_ ?_ <;> intro _ <;> try (exfalso; omega)))
      | (show andThen _ _ _ _; refine goN ?_)
      | (show inBlock _ _ _ _; refine goB ?_)
      | (show awpR _ _ _ _ _ _ _; first | refine goR ?_ | refine clR 34 tt rfl rfl rfl (hr := l1) (k := ?_) | refine clR 15 tt rfl rfl rfl (hr := aw) (k := ?_) | (refine gdRG ?_ ?_ <;> intro _ <;> try (exfalso; omega)))
      | (show retPost _ _ _ _ _; refine finG ?_))
    all_goals rfl
end Go.Proofs.YtlphlodailailaaGreat
