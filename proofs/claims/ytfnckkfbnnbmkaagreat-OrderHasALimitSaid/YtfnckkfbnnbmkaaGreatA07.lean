/-
  Contracts of functions of the program, and the layer that they are walked with: N08 RatsQ R06 N09 RatsC N10 RatsD N11 RatsM Itv. Conditions: as each says.
-/
import Derived.Test.YtfnckkfbnnbmkaaGreatA06
set_option linter.unusedVariables false
set_option linter.unusedSimpArgs false
namespace Go.Proofs.YtfnckkfbnnbmkaaGreat
open Go.Vw
attribute [local irreducible] awp awpL awpR

theorem integer_Valid (neg : Bool) (mag : List Nat) (hl : mag.length < 1000000000000) : Ret Tryz.prog 137 [intC neg mag] (· = .bool (validI neg mag)) := by
  have hv := natural_Valid mag hl
  unfold validI
  generalize valid mag = v at *
  cases v <;> cases neg
  · refine ret_of_awp tab Tryz.func137 rfl rfl (Nat.le_of_ble_eq_true rfl) (fun w0 F0 => ?_)
    repeat' (first
      | (show awpL _ _ _ _ _; first | refine goL ?_ | refine cl 154 tt rfl rfl rfl (hr := hv) (k := ?_) | (refine gdLG ?_ ?_ <;> intro _ <;> try (exfalso; omega)))
      | (show awp _ _ _ _; first | refine goA ?_ | (refine cdG ?_ ?_ <;> intro _ <;> try (exfalso; omega)))
      | (show andThen _ _ _ _; refine goN ?_)
      | (show inBlock _ _ _ _; refine goB ?_)
      | (show retPost _ _ _ _ _; refine finG ?_))
    rfl
  · refine ret_of_awp tab Tryz.func137 rfl rfl (Nat.le_of_ble_eq_true rfl) (fun w0 F0 => ?_)
    repeat' (first
      | (show awpL _ _ _ _ _; first | refine goL ?_ | refine cl 154 tt rfl rfl rfl (hr := hv) (k := ?_) | (refine gdLG ?_ ?_ <;> intro _ <;> try (exfalso; omega)))
      | (show awp _ _ _ _; first | refine goA ?_ | (refine cdG ?_ ?_ <;> intro _ <;> try (exfalso; omega)))
      | (show andThen _ _ _ _; refine goN ?_)
      | (show inBlock _ _ _ _; refine goB ?_)
      | (show retPost _ _ _ _ _; refine finG ?_))
    rfl
  · refine ret_of_awp tab Tryz.func137 rfl rfl (Nat.le_of_ble_eq_true rfl) (fun w0 F0 => ?_)
    repeat' (first
      | (show awpL _ _ _ _ _; first | refine goL ?_ | refine cl 154 tt rfl rfl rfl (hr := hv) (k := ?_) | (refine gdLG ?_ ?_ <;> intro _ <;> try (exfalso; omega)))
      | (show awp _ _ _ _; first | refine goA ?_ | (refine cdG ?_ ?_ <;> intro _ <;> try (exfalso; omega)))
      | (show andThen _ _ _ _; refine goN ?_)
      | (show inBlock _ _ _ _; refine goB ?_)
      | (show retPost _ _ _ _ _; refine finG ?_))
    all_goals simp
  · refine ret_of_awp tab Tryz.func137 rfl rfl (Nat.le_of_ble_eq_true rfl) (fun w0 F0 => ?_)
    repeat' (first
      | (show awpL _ _ _ _ _; first | refine goL ?_ | refine cl 154 tt rfl rfl rfl (hr := hv) (k := ?_) | (refine gdLG ?_ ?_ <;> intro _ <;> try (exfalso; omega)))
      | (show awp _ _ _ _; first | refine goA ?_ | (refine cdG ?_ ?_ <;> intro _ <;> try (exfalso; omega)))
      | (show andThen _ _ _ _; refine goN ?_)
      | (show inBlock _ _ _ _; refine goB ?_)
      | (show retPost _ _ _ _ _; refine finG ?_))
    · rename_i h
      simp
      intro e; subst e; simp at h
    · rename_i h
      simp
      exact List.length_eq_zero_iff.1 (show mag.length = 0 by omega)
theorem integer_value (neg : Bool) (mag : List Nat) (wm : WF mag) (hl : mag.length < 100000000000) : Ret Tryz.prog 110 [intC neg mag] (· = zD (iv' neg mag)) := by
  have hv := integer_Valid neg mag (by omega)
  cases h : validI neg mag with
  | false =>
    rw [h] at hv
    rw [show iv' neg mag = 0 from by simp [iv', h]]
    refine ret_of_awp tab Tryz.func110 rfl rfl (Nat.le_of_ble_eq_true rfl) (fun w0 F0 => ?_)
    rw [zD_zero]
    repeat' (first
      | (show awpL _ _ _ _ _; first | refine goL ?_ | refine cl 137 tt rfl rfl rfl (hr := hv) (k := ?_) | (refine gdLG ?_ ?_ <;> intro _ <;> try (exfalso; omega)))
      | (show awp _ _ _ _; first | refine goA ?_ | (refine cdG ?_ ?_ <;> intro _ <;> try (exfalso; omega)))
      | (show andThen _ _ _ _; refine goN ?_)
      | (show inBlock _ _ _ _; refine goB ?_)
      | (show retPost _ _ _ _ _; first | refine finF true rfl rfl sc ?_ | refine finF false rfl rfl sc ?_ | refine finC false rfl rfl sc sc ?_ | refine finN rfl rfl sc ?_ | refine finL true rfl rfl sc rfl (LeR.cons rfl leL LeR.nil) ?_ | refine finA true rfl rfl sc ?_ | refine finA false rfl rfl sc ?_ | refine finE true rfl rfl sc ?_ | refine finE false rfl rfl sc ?_))
    exact leL
  | true =>
    rw [h] at hv
    rw [← intC_valid wm h]
    refine ret_of_awp tab Tryz.func110 rfl rfl (Nat.le_of_ble_eq_true rfl) (fun w0 F0 => ?_)
    repeat' (first
      | (show awpL _ _ _ _ _; first | refine goL ?_ | refine cl 137 tt rfl rfl rfl (hr := hv) (k := ?_) | (refine gdLG ?_ ?_ <;> intro _ <;> try (exfalso; omega)))
      | (show awp _ _ _ _; first | refine goA ?_ | (refine cdG ?_ ?_ <;> intro _ <;> try (exfalso; omega)))
      | (show andThen _ _ _ _; refine goN ?_)
      | (show inBlock _ _ _ _; refine goB ?_)
      | (show retPost _ _ _ _ _; refine finG ?_))
    rfl
theorem integer_valueZ (z : Int) (hl : (limbs z.natAbs).length < 100000000000) : Ret Tryz.prog 110 [zD z] (· = zD z) := by
  have := integer_value (decide (z < 0)) (limbs z.natAbs) (wf_limbs _) hl
  rw [iv'_z] at this
  exact this
theorem integer_SignZ (z : Int) (hl : (limbs z.natAbs).length < 100000000000) : Ret Tryz.prog 101 [zD z] (· = .int .i64 z.sign) := by
  have ht := integer_valueZ z hl
  obtain ⟨s, n, e1, e2, e3, e4⟩ := zD_cases z
  rw [e1] at ht
  have hn0 : (limbs n).length = 0 ↔ n = 0 := ⟨fun h => limbs_eq_nil.1 (List.length_eq_zero_iff.1 h), fun h => by rw [h, limbs_zero]; rfl⟩
  rw [e1] at *
  cases s with
  | true =>
    have h0 := e4 rfl
    have : z.sign = -1 := Int.sign_eq_neg_one_of_neg (by simp at e2; omega)
    rw [this]
    refine ret_of_awp tab Tryz.func101 rfl rfl (Nat.le_of_ble_eq_true rfl) (fun w0 F0 => ?_)
    repeat' (first
      | (show awpL _ _ _ _ _; first | refine goL ?_ | refine cl 110 tt rfl rfl rfl (hr := ht) (k := ?_) | (refine gdLG ?_ ?_ <;> intro _ <;> try (exfalso; omega)))
      | (show awp _ _ _ _; first | refine goA ?_ | (refine cdG ?_ ?_ <;> intro _ <;> try (exfalso; omega)))
      | (show andThen _ _ _ _; refine goN ?_)
      | (show inBlock _ _ _ _; refine goB ?_)
      | (show retPost _ _ _ _ _; refine finG ?_))
    rfl
  | false =>
    simp at e2
    refine ret_of_awp tab Tryz.func101 rfl rfl (Nat.le_of_ble_eq_true rfl) (fun w0 F0 => ?_)
    repeat' (first
      | (show awpL _ _ _ _ _; first | refine goL ?_ | refine cl 110 tt rfl rfl rfl (hr := ht) (k := ?_) | (refine gdLG ?_ ?_ <;> intro _ <;> try (exfalso; omega)))
      | (show awp _ _ _ _; first | refine goA ?_ | (refine cdG ?_ ?_ <;> intro _ <;> try (exfalso; omega)))
      | (show andThen _ _ _ _; refine goN ?_)
      | (show inBlock _ _ _ _; refine goB ?_)
      | (show retPost _ _ _ _ _; refine finG ?_))
    · rename_i hp
      have : n = 0 := by omega
      subst this
      rw [e2]; rfl
    · rename_i hp
      have : z.sign = 1 := Int.sign_eq_one_of_pos (by omega)
      rw [this]
theorem integer_copiedZ (z : Int) (hl : (limbs z.natAbs).length < 10000000000) : Ret Tryz.prog 166 [zD z] (· = zD z) := by
  obtain ⟨s, n, e1, e2, e3, e4⟩ := zD_cases z
  rw [e3] at hl
  have ha := natural_AddN n 0 (by omega) (by rw [limbs_zero]; simp)
  rw [limbs_zero, Nat.add_zero] at ha
  have hs := integer_signed s n (by omega)
  rw [← e2] at hs
  rw [e1] at hs ⊢
  refine ret_of_awp tab Tryz.func166 rfl rfl (Nat.le_of_ble_eq_true rfl) (fun w0 F0 => ?_)
  repeat' (first
    | (show awpL _ _ _ _ _; first | refine goL ?_ | refine cl 138 tt rfl rfl rfl (hr := ha) (k := ?_) | refine cl 131 tt rfl rfl rfl (hr := hs) (k := ?_) | (refine gdLG ?_ ?_ <;> intro _ <;> try (exfalso; omega)))
    | (show awp _ _ _ _; first | refine goA ?_ | refine rg 1 5 ?_ | (refine cdG ?_ ?_ <;> intro _ <;> try (exfalso; omega)))
    | (show andThen _ _ _ _; refine goN ?_)
    | (show inBlock _ _ _ _; refine goB ?_)
    | (show awpR _ _ _ _ _ _ _; first | refine goR ?_ | refine clR 138 tt rfl rfl rfl (hr := ha) (k := ?_) | refine clR 131 tt rfl rfl rfl (hr := hs) (k := ?_) | (refine gdRG ?_ ?_ <;> intro _ <;> try (exfalso; omega)))
    | (show retPost _ _ _ _ _; refine finG ?_))
  rfl
theorem integer_NegZ (z : Int) (hl : (limbs z.natAbs).length < 10000000000) : Ret Tryz.prog 153 [zD z] (· = zD (-z)) := by
  have ht := integer_valueZ z (by omega)
  have hc := integer_copiedZ z hl
  obtain ⟨s, n, e1, e2, e3, e4⟩ := zD_cases z
  rw [e1] at ht hc
  rw [e3] at hl
  have hs := integer_signed (!s) n (by omega)
  have : (if (!s) = true then -(n : Int) else n) = -z := by cases s <;> simp at e2 ⊢ <;> omega
  rw [this] at hs
  rw [e1]
  cases s with
  | true =>
    refine ret_of_awp tab Tryz.func153 rfl rfl (Nat.le_of_ble_eq_true rfl) (fun w0 F0 => ?_)
    repeat' (first
      | (show awpL _ _ _ _ _; first | refine goL ?_ | refine cl 110 tt rfl rfl rfl (hr := ht) (k := ?_) | refine cl 166 tt rfl rfl rfl (hr := hc) (k := ?_) | refine cl 131 tt rfl rfl rfl (hr := hs) (k := ?_) | (refine gdLG ?_ ?_ <;> intro _ <;> try (exfalso; omega)))
      | (show awp _ _ _ _; first | refine goA ?_ | (refine cdG ?_ ?_ <;> intro _ <;> try (exfalso; omega)))
      | (show andThen _ _ _ _; refine goN ?_)
      | (show inBlock _ _ _ _; refine goB ?_)
      | (show retPost _ _ _ _ _; refine finG ?_))
    rfl
  | false =>
    refine ret_of_awp tab Tryz.func153 rfl rfl (Nat.le_of_ble_eq_true rfl) (fun w0 F0 => ?_)
    repeat' (first
      | (show awpL _ _ _ _ _; first | refine goL ?_ | refine cl 110 tt rfl rfl rfl (hr := ht) (k := ?_) | refine cl 166 tt rfl rfl rfl (hr := hc) (k := ?_) | refine cl 131 tt rfl rfl rfl (hr := hs) (k := ?_) | (refine gdLG ?_ ?_ <;> intro _ <;> try (exfalso; omega)))
      | (show awp _ _ _ _; first | refine goA ?_ | (refine cdG ?_ ?_ <;> intro _ <;> try (exfalso; omega)))
      | (show andThen _ _ _ _; refine goN ?_)
      | (show inBlock _ _ _ _; refine goB ?_)
      | (show retPost _ _ _ _ _; refine finG ?_))
    rfl
theorem integer_AddZ (x y : Int) (h : (limbs x.natAbs).length < 100000000) (k : (limbs y.natAbs).length < 100000000) : Ret Tryz.prog 113 [zD x, zD y] (· = zD (x + y)) := by
  have ta := integer_valueZ x (by omega)
  have tb := integer_valueZ y (by omega)
  obtain ⟨s, a, e1, e2, e3, e4⟩ := zD_cases x
  obtain ⟨t, b, f1, f2, f3, f4⟩ := zD_cases y
  rw [e1] at ta
  rw [f1] at tb
  rw [e3] at h
  rw [f3] at k
  have ladd := ln_add a b
  have ls := len_bound (Nat.sub_le a b) h
  have ls' := len_bound (Nat.sub_le b a) k
  simp only [ln] at ladd
  rw [e1, f1]
  cases s <;> cases t
  · refine ret_of_awp tab Tryz.func113 rfl rfl (Nat.le_of_ble_eq_true rfl) (fun w0 F0 => ?_)
    repeat' (first
      | (show awpL _ _ _ _ _; first | refine goL ?_ | refine cl 110 tt rfl rfl rfl (hr := ta) (k := ?_) | refine cl 110 tt rfl rfl rfl (hr := tb) (k := ?_) | refine cl 139 tt rfl rfl rfl (hr := natural_SubN _ _ (by omega) (by omega)) (k := ?_) | refine cl 131 tt rfl rfl rfl (hr := integer_signed _ _ (by omega)) (k := ?_) | refine cl 138 tt rfl rfl rfl (hr := natural_AddN _ _ (by omega) (by omega)) (k := ?_) | refine cl 131 tt rfl rfl rfl (hr := integer_signed false _ (by omega)) (k := ?_) | (refine gdLG ?_ ?_ <;> intro _ <;> try (exfalso; omega)))
      | (show awp _ _ _ _; first | refine goA ?_ | refine rg 1 3 ?_ | refine rg 3 7 ?_ | (refine cdG ?_ ?_ <;> intro _ <;> try (exfalso; omega)))
      | (show andThen _ _ _ _; refine goN ?_)
      | (show inBlock _ _ _ _; refine goB ?_)
      | (show awpR _ _ _ _ _ _ _; first | refine goR ?_ | refine clR 110 tt rfl rfl rfl (hr := ta) (k := ?_) | refine clR 110 tt rfl rfl rfl (hr := tb) (k := ?_) | refine clR 139 tt rfl rfl rfl (hr := natural_SubN _ _ (by omega) (by omega)) (k := ?_) | refine clR 131 tt rfl rfl rfl (hr := integer_signed _ _ (by omega)) (k := ?_) | refine clR 138 tt rfl rfl rfl (hr := natural_AddN _ _ (by omega) (by omega)) (k := ?_) | refine clR 131 tt rfl rfl rfl (hr := integer_signed false _ (by omega)) (k := ?_) | (refine gdRG ?_ ?_ <;> intro _ <;> try (exfalso; omega)))
      | (show retPost _ _ _ _ _; refine finG ?_))
    refine congrArg zD ?_
    rw [e2, f2]; simp only [Bool.false_eq_true, if_true, if_false]; omega
  · refine ret_of_awp tab Tryz.func113 rfl rfl (Nat.le_of_ble_eq_true rfl) (fun w0 F0 => ?_)
    repeat' (first
      | (show awpL _ _ _ _ _; first | refine goL ?_ | refine cl 110 tt rfl rfl rfl (hr := ta) (k := ?_) | refine cl 110 tt rfl rfl rfl (hr := tb) (k := ?_) | refine cl 139 tt rfl rfl rfl (hr := natural_SubN _ _ (by omega) (by omega)) (k := ?_) | refine cl 131 tt rfl rfl rfl (hr := integer_signed _ _ (by omega)) (k := ?_) | (refine gdLG ?_ ?_ <;> intro _ <;> try (exfalso; omega)))
      | (show awp _ _ _ _; first | refine goA ?_ | refine rg 1 3 ?_ | refine rg 3 7 ?_ | (refine cdG ?_ ?_ <;> intro _ <;> try (exfalso; omega)))
      | (show andThen _ _ _ _; refine goN ?_)
      | (show inBlock _ _ _ _; refine goB ?_)
      | (show awpR _ _ _ _ _ _ _; first | refine goR ?_ | refine clR 110 tt rfl rfl rfl (hr := ta) (k := ?_) | refine clR 110 tt rfl rfl rfl (hr := tb) (k := ?_) | refine clR 139 tt rfl rfl rfl (hr := natural_SubN _ _ (by omega) (by omega)) (k := ?_) | refine clR 131 tt rfl rfl rfl (hr := integer_signed _ _ (by omega)) (k := ?_) | (refine gdRG ?_ ?_ <;> intro _ <;> try (exfalso; omega)))
      | (show retPost _ _ _ _ _; refine finG ?_))
    · refine congrArg zD ?_
      rw [e2, f2]; simp only [Bool.false_eq_true, if_true, if_false]; omega
    · refine congrArg zD ?_
      rw [e2, f2]; simp only [Bool.false_eq_true, if_true, if_false]; omega
  · refine ret_of_awp tab Tryz.func113 rfl rfl (Nat.le_of_ble_eq_true rfl) (fun w0 F0 => ?_)
    repeat' (first
      | (show awpL _ _ _ _ _; first | refine goL ?_ | refine cl 110 tt rfl rfl rfl (hr := ta) (k := ?_) | refine cl 110 tt rfl rfl rfl (hr := tb) (k := ?_) | refine cl 139 tt rfl rfl rfl (hr := natural_SubN _ _ (by omega) (by omega)) (k := ?_) | refine cl 131 tt rfl rfl rfl (hr := integer_signed _ _ (by omega)) (k := ?_) | (refine gdLG ?_ ?_ <;> intro _ <;> try (exfalso; omega)))
      | (show awp _ _ _ _; first | refine goA ?_ | refine rg 1 3 ?_ | refine rg 3 7 ?_ | (refine cdG ?_ ?_ <;> intro _ <;> try (exfalso; omega)))
      | (show andThen _ _ _ _; refine goN ?_)
      | (show inBlock _ _ _ _; refine goB ?_)
      | (show awpR _ _ _ _ _ _ _; first | refine goR ?_ | refine clR 110 tt rfl rfl rfl (hr := ta) (k := ?_) | refine clR 110 tt rfl rfl rfl (hr := tb) (k := ?_) | refine clR 139 tt rfl rfl rfl (hr := natural_SubN _ _ (by omega) (by omega)) (k := ?_) | refine clR 131 tt rfl rfl rfl (hr := integer_signed _ _ (by omega)) (k := ?_) | (refine gdRG ?_ ?_ <;> intro _ <;> try (exfalso; omega)))
      | (show retPost _ _ _ _ _; refine finG ?_))
    · refine congrArg zD ?_
      rw [e2, f2]; simp only [Bool.false_eq_true, if_true, if_false]; omega
    · refine congrArg zD ?_
      rw [e2, f2]; simp only [Bool.false_eq_true, if_true, if_false]; omega
  · refine ret_of_awp tab Tryz.func113 rfl rfl (Nat.le_of_ble_eq_true rfl) (fun w0 F0 => ?_)
    repeat' (first
      | (show awpL _ _ _ _ _; first | refine goL ?_ | refine cl 110 tt rfl rfl rfl (hr := ta) (k := ?_) | refine cl 110 tt rfl rfl rfl (hr := tb) (k := ?_) | refine cl 139 tt rfl rfl rfl (hr := natural_SubN _ _ (by omega) (by omega)) (k := ?_) | refine cl 131 tt rfl rfl rfl (hr := integer_signed _ _ (by omega)) (k := ?_) | refine cl 138 tt rfl rfl rfl (hr := natural_AddN _ _ (by omega) (by omega)) (k := ?_) | refine cl 131 tt rfl rfl rfl (hr := integer_signed true _ (by omega)) (k := ?_) | (refine gdLG ?_ ?_ <;> intro _ <;> try (exfalso; omega)))
      | (show awp _ _ _ _; first | refine goA ?_ | refine rg 1 3 ?_ | refine rg 3 7 ?_ | (refine cdG ?_ ?_ <;> intro _ <;> try (exfalso; omega)))
      | (show andThen _ _ _ _; refine goN ?_)
      | (show inBlock _ _ _ _; refine goB ?_)
      | (show awpR _ _ _ _ _ _ _; first | refine goR ?_ | refine clR 110 tt rfl rfl rfl (hr := ta) (k := ?_) | refine clR 110 tt rfl rfl rfl (hr := tb) (k := ?_) | refine clR 139 tt rfl rfl rfl (hr := natural_SubN _ _ (by omega) (by omega)) (k := ?_) | refine clR 131 tt rfl rfl rfl (hr := integer_signed _ _ (by omega)) (k := ?_) | refine clR 138 tt rfl rfl rfl (hr := natural_AddN _ _ (by omega) (by omega)) (k := ?_) | refine clR 131 tt rfl rfl rfl (hr := integer_signed true _ (by omega)) (k := ?_) | (refine gdRG ?_ ?_ <;> intro _ <;> try (exfalso; omega)))
      | (show retPost _ _ _ _ _; refine finG ?_))
    refine congrArg zD ?_
    rw [e2, f2]; simp only [if_true]; omega
theorem integer_MulZ (x y : Int) (h : (limbs x.natAbs).length < 100000000) (k : (limbs y.natAbs).length < 100000000) : Ret Tryz.prog 107 [zD x, zD y] (· = zD (x * y)) := by
  have ta := integer_valueZ x (by omega)
  have tb := integer_valueZ y (by omega)
  obtain ⟨s, a, e1, e2, e3, e4⟩ := zD_cases x
  obtain ⟨t, b, f1, f2, f3, f4⟩ := zD_cases y
  rw [e1] at ta
  rw [f1] at tb
  rw [e3] at h
  rw [f3] at k
  have lm := ln_mul a b
  simp only [ln] at lm
  have hm := natural_MulN a b (by omega) (by omega)
  have hs := fun s => integer_signed s (a * b) (by omega)
  rw [e1, f1, e2, f2]
  cases s <;> cases t
  · refine ret_of_awp tab Tryz.func107 rfl rfl (Nat.le_of_ble_eq_true rfl) (fun w0 F0 => ?_)
    repeat' (first
      | (show awpL _ _ _ _ _; first | refine goL ?_ | refine cl 110 tt rfl rfl rfl (hr := ta) (k := ?_) | refine cl 110 tt rfl rfl rfl (hr := tb) (k := ?_) | refine cl 109 tt rfl rfl rfl (hr := hm) (k := ?_) | refine cl 131 tt rfl rfl rfl (hr := hs false) (k := ?_) | (refine gdLG ?_ ?_ <;> intro _ <;> try (exfalso; omega)))
      | (show awp _ _ _ _; first | refine goA ?_ | refine rg 1 3 ?_ | refine rg 2 10 ?_ | (refine cdG ?_ ?_ <;> intro _ <;> try (exfalso; omega)))
      | (show andThen _ _ _ _; refine goN ?_)
      | (show inBlock _ _ _ _; refine goB ?_)
      | (show awpR _ _ _ _ _ _ _; first | refine goR ?_ | refine clR 110 tt rfl rfl rfl (hr := ta) (k := ?_) | refine clR 110 tt rfl rfl rfl (hr := tb) (k := ?_) | refine clR 109 tt rfl rfl rfl (hr := hm) (k := ?_) | refine clR 131 tt rfl rfl rfl (hr := hs false) (k := ?_) | (refine gdRG ?_ ?_ <;> intro _ <;> try (exfalso; omega)))
      | (show retPost _ _ _ _ _; refine finG ?_))
    refine congrArg zD ?_
    simp [Int.neg_mul, Int.mul_neg]
  · refine ret_of_awp tab Tryz.func107 rfl rfl (Nat.le_of_ble_eq_true rfl) (fun w0 F0 => ?_)
    repeat' (first
      | (show awpL _ _ _ _ _; first | refine goL ?_ | refine cl 110 tt rfl rfl rfl (hr := ta) (k := ?_) | refine cl 110 tt rfl rfl rfl (hr := tb) (k := ?_) | refine cl 109 tt rfl rfl rfl (hr := hm) (k := ?_) | refine cl 131 tt rfl rfl rfl (hr := hs true) (k := ?_) | (refine gdLG ?_ ?_ <;> intro _ <;> try (exfalso; omega)))
      | (show awp _ _ _ _; first | refine goA ?_ | refine rg 1 3 ?_ | refine rg 2 10 ?_ | (refine cdG ?_ ?_ <;> intro _ <;> try (exfalso; omega)))
      | (show andThen _ _ _ _; refine goN ?_)
      | (show inBlock _ _ _ _; refine goB ?_)
      | (show awpR _ _ _ _ _ _ _; first | refine goR ?_ | refine clR 110 tt rfl rfl rfl (hr := ta) (k := ?_) | refine clR 110 tt rfl rfl rfl (hr := tb) (k := ?_) | refine clR 109 tt rfl rfl rfl (hr := hm) (k := ?_) | refine clR 131 tt rfl rfl rfl (hr := hs true) (k := ?_) | (refine gdRG ?_ ?_ <;> intro _ <;> try (exfalso; omega)))
      | (show retPost _ _ _ _ _; refine finG ?_))
    refine congrArg zD ?_
    simp [Int.neg_mul, Int.mul_neg]
  · refine ret_of_awp tab Tryz.func107 rfl rfl (Nat.le_of_ble_eq_true rfl) (fun w0 F0 => ?_)
    repeat' (first
      | (show awpL _ _ _ _ _; first | refine goL ?_ | refine cl 110 tt rfl rfl rfl (hr := ta) (k := ?_) | refine cl 110 tt rfl rfl rfl (hr := tb) (k := ?_) | refine cl 109 tt rfl rfl rfl (hr := hm) (k := ?_) | refine cl 131 tt rfl rfl rfl (hr := hs true) (k := ?_) | (refine gdLG ?_ ?_ <;> intro _ <;> try (exfalso; omega)))
      | (show awp _ _ _ _; first | refine goA ?_ | refine rg 1 3 ?_ | refine rg 2 10 ?_ | (refine cdG ?_ ?_ <;> intro _ <;> try (exfalso; omega)))
      | (show andThen _ _ _ _; refine goN ?_)
      | (show inBlock _ _ _ _; refine goB ?_)
      | (show awpR _ _ _ _ _ _ _; first | refine goR ?_ | refine clR 110 tt rfl rfl rfl (hr := ta) (k := ?_) | refine clR 110 tt rfl rfl rfl (hr := tb) (k := ?_) | refine clR 109 tt rfl rfl rfl (hr := hm) (k := ?_) | refine clR 131 tt rfl rfl rfl (hr := hs true) (k := ?_) | (refine gdRG ?_ ?_ <;> intro _ <;> try (exfalso; omega)))
      | (show retPost _ _ _ _ _; refine finG ?_))
    refine congrArg zD ?_
    simp [Int.neg_mul, Int.mul_neg]
  · refine ret_of_awp tab Tryz.func107 rfl rfl (Nat.le_of_ble_eq_true rfl) (fun w0 F0 => ?_)
    repeat' (first
      | (show awpL _ _ _ _ _; first | refine goL ?_ | refine cl 110 tt rfl rfl rfl (hr := ta) (k := ?_) | refine cl 110 tt rfl rfl rfl (hr := tb) (k := ?_) | refine cl 109 tt rfl rfl rfl (hr := hm) (k := ?_) | refine cl 131 tt rfl rfl rfl (hr := hs false) (k := ?_) | (refine gdLG ?_ ?_ <;> intro _ <;> try (exfalso; omega)))
      | (show awp _ _ _ _; first | refine goA ?_ | refine rg 1 3 ?_ | refine rg 2 10 ?_ | (refine cdG ?_ ?_ <;> intro _ <;> try (exfalso; omega)))
      | (show andThen _ _ _ _; refine goN ?_)
      | (show inBlock _ _ _ _; refine goB ?_)
      | (show awpR _ _ _ _ _ _ _; first | refine goR ?_ | refine clR 110 tt rfl rfl rfl (hr := ta) (k := ?_) | refine clR 110 tt rfl rfl rfl (hr := tb) (k := ?_) | refine clR 109 tt rfl rfl rfl (hr := hm) (k := ?_) | refine clR 131 tt rfl rfl rfl (hr := hs false) (k := ?_) | (refine gdRG ?_ ?_ <;> intro _ <;> try (exfalso; omega)))
      | (show retPost _ _ _ _ _; refine finG ?_))
    refine congrArg zD ?_
    simp [Int.neg_mul, Int.mul_neg]
theorem cmpZ (x y : Int) (s t : Bool) (a b : Nat) (e2 : x = if s = true then -(a : Int) else a) (f2 : y = if t = true then -(b : Int) else b) (hx : x.sign = y.sign) : x.sign * cmpN a b = (if x < y then -1 else if y < x then 1 else 0) := by
  have hc : cmpN a b = if a < b then -1 else if b < a then 1 else 0 := rfl
  rcases Int.lt_trichotomy x 0 with h | h | h
  · have h1 := Int.sign_eq_neg_one_of_neg h
    have h2 : y < 0 := Int.sign_eq_neg_one_iff_neg.1 (hx ▸ h1)
    rw [h1, hc]
    cases s <;> cases t <;> simp only [Bool.false_eq_true, if_true, if_false] at e2 f2 <;> repeat' split
    all_goals omega
  · have h1 : x.sign = 0 := by rw [h]; rfl
    have h2 : y = 0 := Int.sign_eq_zero_iff_zero.1 (hx ▸ h1)
    rw [h1, Int.zero_mul, if_neg (by omega), if_neg (by omega)]
  · have h1 := Int.sign_eq_one_of_pos h
    have h2 : 0 < y := Int.sign_eq_one_iff_pos.1 (hx ▸ h1)
    rw [h1, hc]
    cases s <;> cases t <;> simp only [Bool.false_eq_true, if_true, if_false] at e2 f2 <;> repeat' split
    all_goals omega
theorem integer_CompareZ (x y : Int) (h : (limbs x.natAbs).length < 100000000) (k : (limbs y.natAbs).length < 100000000) : Ret Tryz.prog 103 [zD x, zD y] (· = .int .i64 (if x < y then -1 else if y < x then 1 else 0)) := by
  have ta := integer_valueZ x (by omega)
  have tb := integer_valueZ y (by omega)
  have sa := integer_SignZ x (by omega)
  have sb := integer_SignZ y (by omega)
  obtain ⟨s, a, e1, e2, e3, e4⟩ := zD_cases x
  obtain ⟨t, b, f1, f2, f3, f4⟩ := zD_cases y
  have hcz := cmpZ x y s t a b e2 f2
  rw [e1] at ta sa
  rw [f1] at tb sb
  rw [e3] at h
  rw [f3] at k
  have hc := natural_CompareN a b (by omega) (by omega)
  have hsx : x.sign = -1 ∧ x < 0 ∨ x.sign = 0 ∧ x = 0 ∨ x.sign = 1 ∧ 0 < x := by
    rcases Int.lt_trichotomy x 0 with h | h | h
    · exact .inl ⟨Int.sign_eq_neg_one_of_neg h, h⟩
    · exact .inr (.inl ⟨by rw [h]; rfl, h⟩)
    · exact .inr (.inr ⟨Int.sign_eq_one_of_pos h, h⟩)
  have hsy : y.sign = -1 ∧ y < 0 ∨ y.sign = 0 ∧ y = 0 ∨ y.sign = 1 ∧ 0 < y := by
    rcases Int.lt_trichotomy y 0 with h | h | h
    · exact .inl ⟨Int.sign_eq_neg_one_of_neg h, h⟩
    · exact .inr (.inl ⟨by rw [h]; rfl, h⟩)
    · exact .inr (.inr ⟨Int.sign_eq_one_of_pos h, h⟩)
  have hcb : -1 ≤ cmpN a b ∧ cmpN a b ≤ 1 := by unfold cmpN; split <;> (try split) <;> omega
  rw [e1, f1]
  generalize x.sign = p at *
  generalize y.sign = q at *
  generalize cmpN a b = c at *
  have hpc : -1 ≤ p * c ∧ p * c ≤ 1 := by
    rcases hsx with ⟨h, _⟩ | ⟨h, _⟩ | ⟨h, _⟩ <;> rw [h] <;> omega
  clear e1 f1 e2 f2 e3 f3 e4 f4
  refine ret_of_awp tab Tryz.func103 rfl rfl (Nat.le_of_ble_eq_true rfl) (fun w0 F0 => ?_)
  repeat' (first
    | (show awpL _ _ _ _ _; first | refine goL ?_ | refine cl 110 tt rfl rfl rfl (hr := ta) (k := ?_) | refine cl 110 tt rfl rfl rfl (hr := tb) (k := ?_) | refine cl 101 tt rfl rfl rfl (hr := sa) (k := ?_) | refine cl 101 tt rfl rfl rfl (hr := sb) (k := ?_) | refine cl 129 tt rfl rfl rfl (hr := hc) (k := ?_) | (refine gdLG ?_ ?_ <;> intro _ <;> try (exfalso; omega)))
    | (show awp _ _ _ _; first | refine goA ?_ | refine rg 1 3 ?_ | refine rg 2 3 ?_ | (refine cdG ?_ ?_ <;> intro _ <;> try (exfalso; omega)))
    | (show andThen _ _ _ _; refine goN ?_)
    | (show inBlock _ _ _ _; refine goB ?_)
    | (show awpR _ _ _ _ _ _ _; first | refine goR ?_ | refine clR 110 tt rfl rfl rfl (hr := ta) (k := ?_) | refine clR 110 tt rfl rfl rfl (hr := tb) (k := ?_) | refine clR 101 tt rfl rfl rfl (hr := sa) (k := ?_) | refine clR 101 tt rfl rfl rfl (hr := sb) (k := ?_) | refine clR 129 tt rfl rfl rfl (hr := hc) (k := ?_) | (refine gdRG ?_ ?_ <;> intro _ <;> try (exfalso; omega)))
    | (show retPost _ _ _ _ _; refine finG ?_))
  · rw [if_pos (by omega)]
  · rw [if_neg (by omega), if_pos (by omega)]
  · rw [← hcz (by omega)]
theorem integer_DivZ (x y : Int) (h : (limbs x.natAbs).length < 10000000) (k : (limbs y.natAbs).length < 10000000) (h0 : y ≠ 0) : Ret Tryz.prog 112 [zD x, zD y] (· = .tup [zD (x / y), zD (x % y), .bool true]) := by
  have ta := integer_valueZ x (by omega)
  have tb := integer_valueZ y (by omega)
  obtain ⟨s, a, e1, e2, e3, e4⟩ := zD_cases x
  obtain ⟨t, b, f1, f2, f3, f4⟩ := zD_cases y
  rw [e1] at ta
  rw [f1] at tb
  rw [e3] at h
  rw [f3] at k
  have hb : b ≠ 0 := by omega
  have hd := natural_DivN a b (by omega) (by omega) hb
  have l1 := len_bound (Nat.div_le_self a b) h
  have hr := Nat.mod_lt a (Nat.pos_of_ne_zero hb)
  have hx := Nat.div_add_mod a b
  have l2 := len_bound (Nat.le_of_lt hr) k
  have l3 := len_bound (Nat.sub_le b (a % b)) k
  have l4 := ln_add (a / b) 1
  have l5 := ln_one
  simp only [ln] at l4 l5
  have ha := natural_AddN (a / b) 1 (by omega) (by omega)
  rw [show limbs 1 = [1] from limbs_small (by decide) (by decide)] at ha
  have hs := natural_SubN b (a % b) (by omega) (by omega)
  have hz : (limbs (a % b)).length = 0 ↔ a % b = 0 := ⟨fun h => limbs_eq_nil.1 (List.length_eq_zero_iff.1 h), fun h => by rw [h, limbs_zero]; rfl⟩
  rw [e1, f1]
  generalize a / b = q at *
  generalize a % b = r at *
  have hx' : (b : Int) * q + r = a := by rw [← hx]; simp
  cases s <;> cases t
  · simp only [Bool.false_eq_true, if_true, if_false] at e2 f2
    refine ret_of_awp tab Tryz.func112 rfl rfl (Nat.le_of_ble_eq_true rfl) (fun w0 F0 => ?_)
    repeat' (first
      | (show awpL _ _ _ _ _; first | refine goL ?_ | refine cl 110 tt rfl rfl rfl (hr := ta) (k := ?_) | refine cl 110 tt rfl rfl rfl (hr := tb) (k := ?_) | refine cl 134 tt rfl rfl rfl (hr := hd) (k := ?_) | refine cl 138 tt rfl rfl rfl (hr := ha) (k := ?_) | refine cl 139 tt rfl rfl rfl (hr := hs) (k := ?_) | refine cl 131 tt rfl rfl rfl (hr := integer_signed _ _ (by omega)) (k := ?_) | (refine gdLG ?_ ?_ <;> intro _ <;> try (exfalso; omega)))
      | (show awp _ _ _ _; first | refine goA ?_ | refine rg 1 3 ?_ | (refine cdG ?_ ?_ <;> intro _ <;> try (exfalso; omega)))
      | (show andThen _ _ _ _; refine goN ?_)
      | (show inBlock _ _ _ _; refine goB ?_)
      | (show awpR _ _ _ _ _ _ _; first | refine goR ?_ | refine clR 110 tt rfl rfl rfl (hr := ta) (k := ?_) | refine clR 110 tt rfl rfl rfl (hr := tb) (k := ?_) | refine clR 134 tt rfl rfl rfl (hr := hd) (k := ?_) | refine clR 138 tt rfl rfl rfl (hr := ha) (k := ?_) | refine clR 139 tt rfl rfl rfl (hr := hs) (k := ?_) | refine clR 131 tt rfl rfl rfl (hr := integer_signed _ _ (by omega)) (k := ?_) | (refine gdRG ?_ ?_ <;> intro _ <;> try (exfalso; omega)))
      | (show retPost _ _ _ _ _; refine finG ?_))
    · refine divz (q := (q:Int)) (r := (r:Int)) ?_ ?_ ?_
      · rw [e2, f2]; (try simp only [Int.neg_mul, Int.mul_neg, Int.neg_neg, Int.mul_add, Int.mul_one, Int.natCast_add, Int.natCast_one]); omega
      · omega
      · omega
  · simp only [Bool.false_eq_true, if_true, if_false] at e2 f2
    refine ret_of_awp tab Tryz.func112 rfl rfl (Nat.le_of_ble_eq_true rfl) (fun w0 F0 => ?_)
    repeat' (first
      | (show awpL _ _ _ _ _; first | refine goL ?_ | refine cl 110 tt rfl rfl rfl (hr := ta) (k := ?_) | refine cl 110 tt rfl rfl rfl (hr := tb) (k := ?_) | refine cl 134 tt rfl rfl rfl (hr := hd) (k := ?_) | refine cl 138 tt rfl rfl rfl (hr := ha) (k := ?_) | refine cl 139 tt rfl rfl rfl (hr := hs) (k := ?_) | refine cl 131 tt rfl rfl rfl (hr := integer_signed _ _ (by omega)) (k := ?_) | refine cl 131 tt rfl rfl rfl (hr := integer_signed false _ (by omega)) (k := ?_) | refine cl 131 tt rfl rfl rfl (hr := integer_signed true _ (by omega)) (k := ?_) | (refine gdLG ?_ ?_ <;> intro _ <;> try (exfalso; omega)))
      | (show awp _ _ _ _; first | refine goA ?_ | refine rg 1 3 ?_ | (refine cdG ?_ ?_ <;> intro _ <;> try (exfalso; omega)))
      | (show andThen _ _ _ _; refine goN ?_)
      | (show inBlock _ _ _ _; refine goB ?_)
      | (show awpR _ _ _ _ _ _ _; first | refine goR ?_ | refine clR 110 tt rfl rfl rfl (hr := ta) (k := ?_) | refine clR 110 tt rfl rfl rfl (hr := tb) (k := ?_) | refine clR 134 tt rfl rfl rfl (hr := hd) (k := ?_) | refine clR 138 tt rfl rfl rfl (hr := ha) (k := ?_) | refine clR 139 tt rfl rfl rfl (hr := hs) (k := ?_) | refine clR 131 tt rfl rfl rfl (hr := integer_signed _ _ (by omega)) (k := ?_) | refine clR 131 tt rfl rfl rfl (hr := integer_signed false _ (by omega)) (k := ?_) | refine clR 131 tt rfl rfl rfl (hr := integer_signed true _ (by omega)) (k := ?_) | (refine gdRG ?_ ?_ <;> intro _ <;> try (exfalso; omega)))
      | (show retPost _ _ _ _ _; refine finG ?_))
    · refine divz (q := -(q:Int)) (r := (r:Int)) ?_ ?_ ?_
      · rw [e2, f2]; (try simp only [Int.neg_mul, Int.mul_neg, Int.neg_neg, Int.mul_add, Int.mul_one, Int.natCast_add, Int.natCast_one]); omega
      · omega
      · omega
  · simp only [Bool.false_eq_true, if_true, if_false] at e2 f2
    refine ret_of_awp tab Tryz.func112 rfl rfl (Nat.le_of_ble_eq_true rfl) (fun w0 F0 => ?_)
    repeat' (first
      | (show awpL _ _ _ _ _; first | refine goL ?_ | refine cl 110 tt rfl rfl rfl (hr := ta) (k := ?_) | refine cl 110 tt rfl rfl rfl (hr := tb) (k := ?_) | refine cl 134 tt rfl rfl rfl (hr := hd) (k := ?_) | refine cl 138 tt rfl rfl rfl (hr := ha) (k := ?_) | refine cl 139 tt rfl rfl rfl (hr := hs) (k := ?_) | refine cl 131 tt rfl rfl rfl (hr := integer_signed _ _ (by omega)) (k := ?_) | refine cl 131 tt rfl rfl rfl (hr := integer_signed false _ (by omega)) (k := ?_) | refine cl 131 tt rfl rfl rfl (hr := integer_signed true _ (by omega)) (k := ?_) | (refine gdLG ?_ ?_ <;> intro _ <;> try (exfalso; omega)))
      | (show awp _ _ _ _; first | refine goA ?_ | refine rg 1 3 ?_ | (refine cdG ?_ ?_ <;> intro _ <;> try (exfalso; omega)))
      | (show andThen _ _ _ _; refine goN ?_)
      | (show inBlock _ _ _ _; refine goB ?_)
      | (show awpR _ _ _ _ _ _ _; first | refine goR ?_ | refine clR 110 tt rfl rfl rfl (hr := ta) (k := ?_) | refine clR 110 tt rfl rfl rfl (hr := tb) (k := ?_) | refine clR 134 tt rfl rfl rfl (hr := hd) (k := ?_) | refine clR 138 tt rfl rfl rfl (hr := ha) (k := ?_) | refine clR 139 tt rfl rfl rfl (hr := hs) (k := ?_) | refine clR 131 tt rfl rfl rfl (hr := integer_signed _ _ (by omega)) (k := ?_) | refine clR 131 tt rfl rfl rfl (hr := integer_signed false _ (by omega)) (k := ?_) | refine clR 131 tt rfl rfl rfl (hr := integer_signed true _ (by omega)) (k := ?_) | (refine gdRG ?_ ?_ <;> intro _ <;> try (exfalso; omega)))
      | (show retPost _ _ _ _ _; refine finG ?_))
    · rename_i hc
      refine divz (q := -((q+1:Nat):Int)) (r := ((b-r:Nat):Int)) ?_ ?_ ?_
      · rw [e2, f2]; (try simp only [Int.neg_mul, Int.mul_neg, Int.neg_neg, Int.mul_add, Int.mul_one, Int.natCast_add, Int.natCast_one]); omega
      · omega
      · omega
    · rename_i hc
      have hc0 : r = 0 := hz.1 (by omega)
      refine divz (q := -(q:Int)) (r := (r:Int)) ?_ ?_ ?_
      · rw [e2, f2]; (try simp only [Int.neg_mul, Int.mul_neg, Int.neg_neg, Int.mul_add, Int.mul_one, Int.natCast_add, Int.natCast_one]); omega
      · omega
      · omega
  · simp only [Bool.false_eq_true, if_true, if_false] at e2 f2
    refine ret_of_awp tab Tryz.func112 rfl rfl (Nat.le_of_ble_eq_true rfl) (fun w0 F0 => ?_)
    repeat' (first
      | (show awpL _ _ _ _ _; first | refine goL ?_ | refine cl 110 tt rfl rfl rfl (hr := ta) (k := ?_) | refine cl 110 tt rfl rfl rfl (hr := tb) (k := ?_) | refine cl 134 tt rfl rfl rfl (hr := hd) (k := ?_) | refine cl 138 tt rfl rfl rfl (hr := ha) (k := ?_) | refine cl 139 tt rfl rfl rfl (hr := hs) (k := ?_) | refine cl 131 tt rfl rfl rfl (hr := integer_signed _ _ (by omega)) (k := ?_) | refine cl 131 tt rfl rfl rfl (hr := integer_signed false _ (by omega)) (k := ?_) | refine cl 131 tt rfl rfl rfl (hr := integer_signed true _ (by omega)) (k := ?_) | (refine gdLG ?_ ?_ <;> intro _ <;> try (exfalso; omega)))
      | (show awp _ _ _ _; first | refine goA ?_ | refine rg 1 3 ?_ | (refine cdG ?_ ?_ <;> intro _ <;> try (exfalso; omega)))
      | (show andThen _ _ _ _; refine goN ?_)
      | (show inBlock _ _ _ _; refine goB ?_)
      | (show awpR _ _ _ _ _ _ _; first | refine goR ?_ | refine clR 110 tt rfl rfl rfl (hr := ta) (k := ?_) | refine clR 110 tt rfl rfl rfl (hr := tb) (k := ?_) | refine clR 134 tt rfl rfl rfl (hr := hd) (k := ?_) | refine clR 138 tt rfl rfl rfl (hr := ha) (k := ?_) | refine clR 139 tt rfl rfl rfl (hr := hs) (k := ?_) | refine clR 131 tt rfl rfl rfl (hr := integer_signed _ _ (by omega)) (k := ?_) | refine clR 131 tt rfl rfl rfl (hr := integer_signed false _ (by omega)) (k := ?_) | refine clR 131 tt rfl rfl rfl (hr := integer_signed true _ (by omega)) (k := ?_) | (refine gdRG ?_ ?_ <;> intro _ <;> try (exfalso; omega)))
      | (show retPost _ _ _ _ _; refine finG ?_))
    · rename_i hc
      refine divz (q := ((q+1:Nat):Int)) (r := ((b-r:Nat):Int)) ?_ ?_ ?_
      · rw [e2, f2]; (try simp only [Int.neg_mul, Int.mul_neg, Int.neg_neg, Int.mul_add, Int.mul_one, Int.natCast_add, Int.natCast_one]); omega
      · omega
      · omega
    · rename_i hc
      have hc0 : r = 0 := hz.1 (by omega)
      refine divz (q := (q:Int)) (r := (r:Int)) ?_ ?_ ?_
      · rw [e2, f2]; (try simp only [Int.neg_mul, Int.mul_neg, Int.neg_neg, Int.mul_add, Int.mul_one, Int.natCast_add, Int.natCast_one]); omega
      · omega
      · omega
end Go.Proofs.YtfnckkfbnnbmkaaGreat

/-
  Rational numbers: what the fields stand for, and the fields of a number. Conditions: as each says.
-/
set_option linter.unusedVariables false
namespace Go.Vw

/-- The denominator's list: none for 1. -/
def dL (d : Nat) : List Nat := if d = 1 then [] else limbs d
/-- A number's fields. -/
def rq (q : Rat) : R3 := (decide (q.num < 0), limbs q.num.natAbs, dL q.den)
def dv (d : List Nat) : Nat := if d = [] then 1 else val d
/-- The fields are those of a number in lowest terms. -/
def validR (r : R3) : Bool := validI r.1 r.2.1 && valid r.2.2 && !decide (r.2.2 = [1]) && (decide (r.2.2 = []) || (decide (r.2.1 ≠ []) && decide (limbs (Nat.gcd (nv r.2.1) (nv r.2.2)) = [1])))
/-- What fields stand for; 0 if they are not valid. -/
def rv (r : R3) : Rat := if h : validR r = true ∧ dv r.2.2 ≠ 0 ∧ (iv' r.1 r.2.1).natAbs.Coprime (dv r.2.2) then ⟨iv' r.1 r.2.1, dv r.2.2, h.2.1, h.2.2⟩ else 0

theorem limbs_one : limbs 1 = [1] := limbs_small (by decide) (by decide)
theorem valid_one_of {d : List Nat} (h : valid d = true) (w : WF d) (h1 : d ≠ [1]) (h2 : d ≠ []) : 2 ≤ val d := by
  have e := limbs_val w h
  have a : val d ≠ 0 := fun h0 => h2 (by rw [← e, h0, limbs_zero])
  have b : val d ≠ 1 := fun h0 => h1 (by rw [← e, h0, limbs_one])
  omega
theorem dL_dv {d : List Nat} (h : valid d = true) (w : WF d) (h1 : d ≠ [1]) : dL (dv d) = d := by
  by_cases h2 : d = []
  · subst h2; rfl
  · have := valid_one_of h w h1 h2
    rw [dv, if_neg h2, dL, if_neg (by omega), limbs_val w h]
/-- Lists of limbs, and not too long. -/
structure RatOk (r : R3) (k : Nat) : Prop where
  wm : WF r.2.1
  wd : WF r.2.2
  lm : r.2.1.length < k
  ld : r.2.2.length < k
theorem validR_parts {r : R3} (h : validR r = true) (wm : WF r.2.1) (wd : WF r.2.2) : dv r.2.2 ≠ 0 ∧ (iv' r.1 r.2.1).natAbs.Coprime (dv r.2.2) := by
  unfold validR at h
  simp only [Bool.and_eq_true, Bool.or_eq_true, decide_eq_true_eq, Bool.not_eq_true', decide_eq_false_iff_not] at h
  obtain ⟨⟨⟨h1, h2⟩, h3⟩, h4⟩ := h
  by_cases h0 : r.2.2 = []
  · rw [h0]; exact ⟨by decide, by simp [dv]⟩
  · obtain ⟨h4, h5⟩ := h4.resolve_left h0
    have hm : valid r.2.1 = true := by unfold validI at h1; simp at h1; exact h1.1
    have e : dv r.2.2 = val r.2.2 := by rw [dv, if_neg h0]
    have := valid_one_of h2 wd h3 h0
    refine ⟨by rw [e]; omega, ?_⟩
    rw [e, iv'_abs, if_pos h1, Nat.Coprime]
    rw [nv_val hm, nv_val h2, ← limbs_one] at h5
    exact limbs_inj h5
theorem rq_rv {r : R3} (h : validR r = true) (wm : WF r.2.1) (wd : WF r.2.2) : rq (rv r) = r := by
  have hp := validR_parts h wm wd
  unfold rv
  rw [dif_pos ⟨h, hp.1, hp.2⟩]
  unfold validR at h
  simp only [Bool.and_eq_true, Bool.or_eq_true, decide_eq_true_eq, Bool.not_eq_true', decide_eq_false_iff_not] at h
  obtain ⟨⟨⟨h1, h2⟩, h3⟩, h4⟩ := h
  obtain ⟨n, m, d⟩ := r
  simp only at *
  have hz := intC_valid wm h1
  unfold zD intC at hz
  simp only [D.agg.injEq, List.cons.injEq, D.bool.injEq, and_true] at hz
  obtain ⟨g1, g2⟩ := hz
  have g3 : m = limbs (iv' n m).natAbs := by simpa using g2
  unfold rq
  simp only
  rw [dL_dv h2 wd h3, ← g1, ← g3]
theorem dL_valid (d : Nat) : valid (dL d) = true := by
  unfold dL; split
  · rfl
  · exact valid_limbs d
theorem wf_dL (d : Nat) : WF (dL d) := by
  unfold dL; split
  · exact WF.nil
  · exact wf_limbs d
theorem dv_dL {d : Nat} (h : d ≠ 0) : dv (dL d) = d := by
  unfold dL; split
  · rename_i e; rw [e]; rfl
  · rw [dv, if_neg (mt limbs_eq_nil.1 h), val_limbs]
theorem dL_ne1 (d : Nat) : dL d ≠ [1] := by
  unfold dL; split
  · simp
  · rename_i h; rw [← limbs_one]; exact fun e => h (limbs_inj e)
theorem validR_rq (q : Rat) : validR (rq q) = true := by
  unfold validR rq
  simp only [validI_z, dL_valid, Bool.true_and, Bool.and_eq_true, Bool.or_eq_true, decide_eq_true_eq, Bool.not_eq_true', decide_eq_false_iff_not]
  refine ⟨dL_ne1 _, ?_⟩
  by_cases h : q.den = 1
  · left; rw [dL, if_pos h]
  · right
    have hd := q.den_nz
    rw [dL, if_neg h, nv_limbs, nv_limbs]
    have hc : Nat.gcd q.num.natAbs q.den = 1 := q.reduced
    refine ⟨fun e => ?_, by rw [hc, limbs_one]⟩
    rw [limbs_eq_nil] at e
    rw [e, Nat.gcd_zero_left] at hc
    exact h hc
theorem wf_rq (q : Rat) : WF (rq q).2.1 ∧ WF (rq q).2.2 := ⟨wf_limbs _, wf_dL _⟩
theorem rv_rq (q : Rat) : rv (rq q) = q := by
  have hp := validR_parts (validR_rq q) (wf_rq q).1 (wf_rq q).2
  unfold rv
  rw [dif_pos ⟨validR_rq q, hp.1, hp.2⟩]
  have e1 : iv' (rq q).1 (rq q).2.1 = q.num := iv'_z q.num
  have e2 : dv (rq q).2.2 = q.den := dv_dL q.den_nz
  apply Rat.ext
  · exact e1
  · exact e2
theorem rv_invalid {r : R3} (h : validR r = false) : rv r = 0 := by
  unfold rv
  rw [dif_neg]
  rw [h]; simp
theorem rq_zero : rq 0 = r0 := by
  show (decide ((0 : Rat).num < 0), limbs (0 : Rat).num.natAbs, dL (0 : Rat).den) = _
  have a : (0 : Rat).num = 0 := rfl
  have b : (0 : Rat).den = 1 := rfl
  rw [a, b]
  simp [limbs_zero, dL]
theorem rq_inj {p q : Rat} (h : rq p = rq q) : p = q := by rw [← rv_rq p, ← rv_rq q, h]

/-- A number's lists have fewer than k limbs. -/
def okQ (k : Nat) (q : Rat) : Prop := (limbs q.num.natAbs).length < k ∧ (limbs q.den).length < k
theorem okQ.mono {k l : Nat} {q : Rat} (h : okQ k q) (hl : k ≤ l) : okQ l q := ⟨Nat.lt_of_lt_of_le h.1 hl, Nat.lt_of_lt_of_le h.2 hl⟩
theorem okQ_rv {r : R3} {k : Nat} (h : RatOk r k) (hk : 1 < k) : okQ k (rv r) := by
  cases hv : validR r with
  | false => rw [rv_invalid hv]; exact ⟨by show (limbs 0).length < k; rw [limbs_zero]; simp; omega, by show (limbs 1).length < k; rw [limbs_one]; simpa using hk⟩
  | true =>
    have hp := validR_parts hv h.wm h.wd
    unfold rv
    rw [dif_pos ⟨hv, hp.1, hp.2⟩]
    refine ⟨Nat.lt_of_le_of_lt (iv'_len h.wm) h.lm, ?_⟩
    show (limbs (dv r.2.2)).length < k
    unfold dv
    split
    · rw [limbs_one]; simpa using hk
    · exact Nat.lt_of_le_of_lt (length_limbs_le (val_lt h.wd)) h.ld
end Go.Vw

set_option linter.unusedVariables false
set_option linter.unusedSimpArgs false
namespace Go.Proofs.YtfnckkfbnnbmkaaGreat
open Go.Vw
attribute [local irreducible] awp awpL awpR

theorem ref02_SignZ (z : Int) (h : (limbs z.natAbs).length < 100000000000) : Ret Tryz.prog 88 [zD z] (· = .int .i64 z.sign) := by
  have := ref02_Sign _ _ (IntOk.z h); rw [iv'_z] at this; exact this
theorem ref02_NegZ (z : Int) (h : (limbs z.natAbs).length < 100000000000) : Ret Tryz.prog 86 [zD z] (· = zD (-z)) := by
  have := ref02_Neg _ _ (IntOk.z h); rw [iv'_z] at this; exact this
theorem ref02_AddZ (x y : Int) (h : (limbs x.natAbs).length < 10000000000) (k : (limbs y.natAbs).length < 10000000000) : Ret Tryz.prog 57 [zD x, zD y] (· = zD (x + y)) := by
  have := ref02_Add _ _ _ _ (IntOk.z h) (IntOk.z k); rw [iv'_z, iv'_z] at this; exact this
theorem ref02_MulZ (x y : Int) (h : (limbs x.natAbs).length < 1000000000) (k : (limbs y.natAbs).length < 1000000000) : Ret Tryz.prog 58 [zD x, zD y] (· = zD (x * y)) := by
  have := ref02_Mul _ _ _ _ (IntOk.z h) (IntOk.z k); rw [iv'_z, iv'_z] at this; exact this
theorem ref02_GcdZ (x y : Int) (h : (limbs x.natAbs).length < 10000000) (k : (limbs y.natAbs).length < 10000000) : Ret Tryz.prog 92 [zD x, zD y] (· = u32s (limbs (Int.gcd x y))) := by
  have := ref02_Gcd _ _ _ _ (IntOk.z h) (IntOk.z k); rw [iv'_z, iv'_z] at this; exact this
theorem ref02_DivZ (x y : Int) (h : (limbs x.natAbs).length < 10000000) (k : (limbs y.natAbs).length < 10000000) (h0 : y ≠ 0) : Ret Tryz.prog 93 [zD x, zD y] (· = .tup [zD (x / y), zD (x % y), .bool true]) := by
  have := ref02_Div _ _ _ _ (IntOk.z h) (IntOk.z k) (by rw [iv'_z]; exact h0); rw [iv'_z, iv'_z] at this; exact this
theorem zD_nat (n : Nat) : zD (n : Int) = .agg [.bool false, u32s (limbs n)] := by
  unfold zD intC
  rw [decide_eq_false (by omega), Int.natAbs_natCast]

theorem ref03_one (l : List Nat) (hl : l.length < 1000000000000) : Ret Tryz.prog 94 [u32s l] (· = .bool (decide (l = [1]))) := by
  refine ret_of_awp tab Tryz.func94 rfl rfl (Nat.le_of_ble_eq_true rfl) (fun w0 F0 => ?_)
  repeat' (first
    | (show awpL _ _ _ _ _; first | refine goL ?_ | (refine gdLG ?_ ?_ <;> intro _ <;> try (exfalso; omega)))
    | (show awp _ _ _ _; first | refine goA ?_ | (refine cdG ?_ ?_ <;> intro _ <;> try (exfalso; omega)))
    | (show andThen _ _ _ _; refine goN ?_)
    | (show inBlock _ _ _ _; refine goB ?_)
    | (show retPost _ _ _ _ _; refine finG ?_))
  · rename_i h
    obtain ⟨x, rfl⟩ := List.length_eq_one_iff.1 (show l.length = 1 by omega)
    congr 1
    simp; omega
  · rename_i h
    congr 1
    symm; rw [decide_eq_false_iff_not]
    intro e; subst e; exact h rfl
theorem ref03_Valid (r : R3) (h : RatOk r 10000000) : Ret Tryz.prog 89 [rD r] (· = .bool (validR r)) := by
  obtain ⟨n, m, d⟩ := r
  obtain ⟨wm, wd, lm, ld⟩ := h
  simp only at wm wd lm ld
  have hi := ref02_Valid n m (by omega)
  have hd := ref01_Valid d (by omega)
  have h1 := ref03_one d (by omega)
  have hg := ref01_Gcd m d lm ld wm wd
  have lg : (limbs (Nat.gcd (nv m) (nv d))).length < 1000000000000 := by
    have l1 := length_limbs_nv wm
    have l2 := length_limbs_nv wd
    by_cases h0 : nv m = 0
    · rw [h0, Nat.gcd_zero_left]; omega
    · have := limbs_len_mono (Nat.gcd_le_left (nv d) (Nat.pos_of_ne_zero h0)); omega
  have h2 := ref03_one _ lg
  unfold validR
  generalize hvi : validI n m = vi at *
  generalize hvd : valid d = vd at *
  refine ret_of_awp tab Tryz.func89 rfl rfl (Nat.le_of_ble_eq_true rfl) (fun w0 F0 => ?_)
  repeat' (first
    | (show awpL _ _ _ _ _; first | refine goL ?_ | refine cl 119 tt rfl rfl rfl (hr := hi) (k := ?_) | refine cl 120 tt rfl rfl rfl (hr := hd) (k := ?_) | refine cl 94 tt rfl rfl rfl (hr := h1) (k := ?_) | refine cl 121 tt rfl rfl rfl (hr := hg) (k := ?_) | refine cl 94 tt rfl rfl rfl (hr := h2) (k := ?_) | (refine gdLG ?_ ?_ <;> intro _ <;> try (exfalso; omega)))
    | (show awp _ _ _ _; first | refine goA ?_ | (refine cdG ?_ ?_ <;> intro _ <;> try (exfalso; omega)))
    | (show andThen _ _ _ _; refine goN ?_)
    | (show inBlock _ _ _ _; refine goB ?_)
    | (show retPost _ _ _ _ _; refine finG ?_))
  all_goals
    clear hi hd h1 hg h2
    congr 1
    simp_all
  rename_i hm
  intro _ e; subst e; simp at hm

theorem ref03_Take (r : R3) (h : RatOk r 10000000) : Ret Tryz.prog 55 [rD r] (· = rD (rq (rv r))) := by
  have hv := ref03_Valid r h
  have e := rq_rv (r := r)
  have e0 := rv_invalid (r := r)
  have okq := okQ_rv h (by decide)
  cases hr : validR r with
  | false =>
    rw [hr] at hv
    rw [e0 hr, rq_zero]
    refine ret_of_awp tab Tryz.func55 rfl rfl (Nat.le_of_ble_eq_true rfl) (fun w0 F0 => ?_)
    repeat' (first
      | (show awpL _ _ _ _ _; first | refine goL ?_ | refine cl 89 tt rfl rfl rfl (hr := hv) (k := ?_) | (refine gdLG ?_ ?_ <;> intro _ <;> try (exfalso; omega)))
      | (show awp _ _ _ _; first | refine goA ?_ | refine rg 3 5 ?_ | (refine cdG ?_ ?_ <;> intro _ <;> try (exfalso; omega)))
      | (show andThen _ _ _ _; refine goN ?_)
      | (show inBlock _ _ _ _; refine goB ?_)
      | (show awpR _ _ _ _ _ _ _; first | refine goR ?_ | refine clR 89 tt rfl rfl rfl (hr := hv) (k := ?_) | (refine gdRG ?_ ?_ <;> intro _ <;> try (exfalso; omega)))
      | (show retPost _ _ _ _ _; first | refine finF true rfl rfl sc ?_ | refine finF false rfl rfl sc ?_ | refine finC false rfl rfl sc sc ?_ | refine finN rfl rfl sc ?_ | refine finL true rfl rfl sc rfl (LeR.cons rfl leL LeR.nil) ?_ | refine finA true rfl rfl sc ?_ | refine finA false rfl rfl sc ?_ | refine finE true rfl rfl sc ?_ | refine finE false rfl rfl sc ?_))
    exact leL
  | true =>
    rw [hr] at hv
    have e := e hr h.wm h.wd
    rw [e]
    rw [← e] at hv ⊢
    generalize rv r = q at *
    have ht := ref02_TakeZ q.num (by have := okq.1; omega)
    have hd := ref01_Take (dL q.den) (by have := h.ld; rw [← e] at this; have : (dL q.den).length < 10000000 := this; omega)
    rw [takeL, dL_valid, if_pos rfl] at hd
    refine ret_of_awp tab Tryz.func55 rfl rfl (Nat.le_of_ble_eq_true rfl) (fun w0 F0 => ?_)
    repeat' (first
      | (show awpL _ _ _ _ _; first | refine goL ?_ | refine cl 89 tt rfl rfl rfl (hr := hv) (k := ?_) | refine cl 90 tt rfl rfl rfl (hr := ht) (k := ?_) | refine cl 91 tt rfl rfl rfl (hr := hd) (k := ?_) | (refine gdLG ?_ ?_ <;> intro _ <;> try (exfalso; omega)))
      | (show awp _ _ _ _; first | refine goA ?_ | refine rg 3 5 ?_ | (refine cdG ?_ ?_ <;> intro _ <;> try (exfalso; omega)))
      | (show andThen _ _ _ _; refine goN ?_)
      | (show inBlock _ _ _ _; refine goB ?_)
      | (show awpR _ _ _ _ _ _ _; first | refine goR ?_ | refine clR 89 tt rfl rfl rfl (hr := hv) (k := ?_) | refine clR 90 tt rfl rfl rfl (hr := ht) (k := ?_) | refine clR 91 tt rfl rfl rfl (hr := hd) (k := ?_) | (refine gdRG ?_ ?_ <;> intro _ <;> try (exfalso; omega)))
      | (show retPost _ _ _ _ _; refine finG ?_))
    rfl
theorem ref03_Den (q : Rat) (h : okQ 10000000 q) : Ret Tryz.prog 59 [rD (rq q)] (· = zD q.den) := by
  have hd := ref01_TakeN q.den (by have := h.2; omega)
  rw [zD_nat]
  by_cases h1 : q.den = 1
  · have e : rq q = (decide (q.num < 0), limbs q.num.natAbs, []) := by rw [rq, h1]; rfl
    rw [e, h1, limbs_one]
    refine ret_of_awp tab Tryz.func59 rfl rfl (Nat.le_of_ble_eq_true rfl) (fun w0 F0 => ?_)
    repeat' (first
      | (show awpL _ _ _ _ _; first | refine goL ?_ | (refine gdLG ?_ ?_ <;> intro _ <;> try (exfalso; omega)))
      | (show awp _ _ _ _; first | refine goA ?_ | (refine cdG ?_ ?_ <;> intro _ <;> try (exfalso; omega)))
      | (show andThen _ _ _ _; refine goN ?_)
      | (show inBlock _ _ _ _; refine goB ?_)
      | (show retPost _ _ _ _ _; first | refine finF true rfl rfl sc ?_ | refine finF false rfl rfl sc ?_ | refine finC false rfl rfl sc sc ?_ | refine finN rfl rfl sc ?_ | refine finL true rfl rfl sc rfl (LeR.cons rfl leL LeR.nil) ?_ | refine finA true rfl rfl sc ?_ | refine finA false rfl rfl sc ?_ | refine finE true rfl rfl sc ?_ | refine finE false rfl rfl sc ?_))
    exact leL
  · have e : rq q = (decide (q.num < 0), limbs q.num.natAbs, limbs q.den) := by rw [rq, dL, if_neg h1]
    have l0 : (limbs q.den).length ≠ 0 := fun e => q.den_nz (limbs_eq_nil.1 (List.length_eq_zero_iff.1 e))
    rw [e]
    show Ret _ _ [.agg [.bool (decide (q.num < 0)), u32s (limbs q.num.natAbs), u32s (limbs q.den)]] _
    refine ret_of_awp tab Tryz.func59 rfl rfl (Nat.le_of_ble_eq_true rfl) (fun w0 F0 => ?_)
    repeat' (first
      | (show awpL _ _ _ _ _; first | refine goL ?_ | refine cl 91 tt rfl rfl rfl (hr := hd) (k := ?_) | (refine gdLG ?_ ?_ <;> intro _ <;> try (exfalso; omega)))
      | (show awp _ _ _ _; first | refine goA ?_ | (refine cdG ?_ ?_ <;> intro _ <;> try (exfalso; omega)))
      | (show andThen _ _ _ _; refine goN ?_)
      | (show inBlock _ _ _ _; refine goB ?_)
      | (show retPost _ _ _ _ _; first | refine finF true rfl rfl sc ?_ | refine finF false rfl rfl sc ?_ | refine finC false rfl rfl sc sc ?_ | refine finN rfl rfl sc ?_ | refine finL true rfl rfl sc rfl (LeR.cons rfl leL LeR.nil) ?_ | refine finA true rfl rfl sc ?_ | refine finA false rfl rfl sc ?_ | refine finE true rfl rfl sc ?_ | refine finE false rfl rfl sc ?_))
    exact leL

theorem divInt_parts (a b : Int) (hb : 0 < b) : rq (Rat.divInt a b) = (decide (a / (Int.gcd a b : Nat) < 0), limbs (a / (Int.gcd a b : Nat)).natAbs, dL (b / (Int.gcd a b : Nat)).natAbs) := by
  unfold rq
  rw [Rat.num_divInt, Rat.den_divInt, if_neg (by omega), Int.sign_eq_one_of_pos hb, Int.one_mul, Int.gcd_comm b a]
  have : (b / (Int.gcd a b : Nat)).natAbs = b.natAbs / Int.gcd a b := by
    obtain ⟨n, rfl⟩ := Int.eq_ofNat_of_zero_le (show 0 ≤ b by omega)
    rw [← Int.natCast_ediv, Int.natAbs_natCast, Int.natAbs_natCast]
  rw [this]
theorem over_pos (a b : Int) (hb : 0 < b) (la : (limbs a.natAbs).length < 10000000) (lb : (limbs b.natAbs).length < 10000000) : Ret Tryz.prog 56 [zD a, zD b] (· = rD (rq (Rat.divInt a b))) := by
  have hs := ref02_SignZ b (by omega)
  rw [Int.sign_eq_one_of_pos hb] at hs
  have hg := ref02_GcdZ a b la lb
  have g0 : Int.gcd a b ≠ 0 := fun e => by have := Int.eq_zero_of_gcd_eq_zero_right e; omega
  have lg : (limbs ((Int.gcd a b : Nat) : Int).natAbs).length < 10000000 := by
    rw [Int.natAbs_natCast]
    exact len_bound (Nat.le_of_dvd (by omega) (Int.gcd_dvd_natAbs_right a b)) lb
  have h1 := ref02_DivZ a (Int.gcd a b : Nat) la lg (by omega)
  have h2 := ref02_DivZ b (Int.gcd a b : Nat) lb lg (by omega)
  rw [zD_nat] at h1 h2
  have ho := ref03_one (limbs (b / (Int.gcd a b : Nat)).natAbs) (by
    have := limbs_len_mono (m := (b / (Int.gcd a b : Nat)).natAbs) (n := b.natAbs) (by
      rw [Int.natAbs_ediv_of_nonneg (by omega)]
      exact Nat.div_le_self _ _)
    omega)
  rw [divInt_parts a b hb]
  show Ret _ _ _ (· = .agg [.bool (decide (a / (Int.gcd a b : Nat) < 0)), u32s (limbs (a / (Int.gcd a b : Nat)).natAbs), u32s (dL (b / (Int.gcd a b : Nat)).natAbs)])
  generalize a / (Int.gcd a b : Nat) = x at *
  generalize b / (Int.gcd a b : Nat) = y at *
  refine ret_of_awp tab Tryz.func56 rfl rfl (Nat.le_of_ble_eq_true rfl) (fun w0 F0 => ?_)
  repeat' (first
    | (show awpL _ _ _ _ _; first | refine goL ?_ | refine cl 88 tt rfl rfl rfl (hr := hs) (k := ?_) | refine cl 92 tt rfl rfl rfl (hr := hg) (k := ?_) | refine cl 93 tt rfl rfl rfl (hr := h1) (k := ?_) | refine cl 93 tt rfl rfl rfl (hr := h2) (k := ?_) | refine cl 94 tt rfl rfl rfl (hr := ho) (k := ?_) | (refine gdLG ?_ ?_ <;> intro _ <;> try (exfalso; omega)))
    | (show awp _ _ _ _; first | refine goA ?_ | refine rg 2 3 ?_ | (refine cdG ?_ ?_ <;> intro _ <;> try (exfalso; omega)))
    | (show andThen _ _ _ _; refine goN ?_)
    | (show inBlock _ _ _ _; refine goB ?_)
    | (show awpR _ _ _ _ _ _ _; first | refine goR ?_ | refine clR 88 tt rfl rfl rfl (hr := hs) (k := ?_) | refine clR 92 tt rfl rfl rfl (hr := hg) (k := ?_) | refine clR 93 tt rfl rfl rfl (hr := h1) (k := ?_) | refine clR 93 tt rfl rfl rfl (hr := h2) (k := ?_) | refine clR 94 tt rfl rfl rfl (hr := ho) (k := ?_) | (refine gdRG ?_ ?_ <;> intro _ <;> try (exfalso; omega)))
    | (show retPost _ _ _ _ _; first | refine finF true rfl rfl sc ?_ | refine finF false rfl rfl sc ?_ | refine finC false rfl rfl sc sc ?_ | refine finN rfl rfl sc ?_ | refine finL true rfl rfl sc rfl (LeR.cons rfl leL LeR.nil) ?_ | refine finA true rfl rfl sc ?_ | refine finA false rfl rfl sc ?_ | refine finE true rfl rfl sc ?_ | refine finE false rfl rfl sc ?_))
  · rename_i e
    rw [show dL y.natAbs = [] by rw [dL, if_pos (limbs_inj (e.trans limbs_one.symm))]]
    exact leL
  · rename_i e
    rw [show dL y.natAbs = limbs y.natAbs by rw [dL, if_neg (fun h => e (by rw [h, limbs_one]))]]
    exact leL
theorem over_neg (a b : Int) (hb : b < 0) (la : (limbs a.natAbs).length < 10000000) (lb : (limbs b.natAbs).length < 10000000) : Ret Tryz.prog 56 [zD a, zD b] (· = rD (rq (Rat.divInt a b))) := by
  have hs := ref02_SignZ b (by omega)
  rw [Int.sign_eq_neg_one_of_neg hb] at hs
  have na := ref02_NegZ a (by omega)
  have nb := ref02_NegZ b (by omega)
  rw [← Rat.neg_divInt_neg]
  have hb : 0 < -b := by omega
  rw [← Int.natAbs_neg] at la lb
  generalize -a = a' at *
  generalize -b = b' at *
  have hg := ref02_GcdZ a' b' la lb
  have g0 : Int.gcd a' b' ≠ 0 := fun e => by have := Int.eq_zero_of_gcd_eq_zero_right e; omega
  have lg : (limbs ((Int.gcd a' b' : Nat) : Int).natAbs).length < 10000000 := by
    rw [Int.natAbs_natCast]
    exact len_bound (Nat.le_of_dvd (by omega) (Int.gcd_dvd_natAbs_right a' b')) lb
  have h1 := ref02_DivZ a' (Int.gcd a' b' : Nat) la lg (by omega)
  have h2 := ref02_DivZ b' (Int.gcd a' b' : Nat) lb lg (by omega)
  rw [zD_nat] at h1 h2
  have ho := ref03_one (limbs (b' / (Int.gcd a' b' : Nat)).natAbs) (by
    have := limbs_len_mono (m := (b' / (Int.gcd a' b' : Nat)).natAbs) (n := b'.natAbs) (by
      rw [Int.natAbs_ediv_of_nonneg (by omega)]
      exact Nat.div_le_self _ _)
    omega)
  rw [divInt_parts a' b' hb]
  show Ret _ _ _ (· = .agg [.bool (decide (a' / (Int.gcd a' b' : Nat) < 0)), u32s (limbs (a' / (Int.gcd a' b' : Nat)).natAbs), u32s (dL (b' / (Int.gcd a' b' : Nat)).natAbs)])
  generalize a' / (Int.gcd a' b' : Nat) = x at *
  generalize b' / (Int.gcd a' b' : Nat) = y at *
  refine ret_of_awp tab Tryz.func56 rfl rfl (Nat.le_of_ble_eq_true rfl) (fun w0 F0 => ?_)
  repeat' (first
    | (show awpL _ _ _ _ _; first | refine goL ?_ | refine cl 88 tt rfl rfl rfl (hr := hs) (k := ?_) | refine cl 86 tt rfl rfl rfl (hr := na) (k := ?_) | refine cl 86 tt rfl rfl rfl (hr := nb) (k := ?_) | refine cl 92 tt rfl rfl rfl (hr := hg) (k := ?_) | refine cl 93 tt rfl rfl rfl (hr := h1) (k := ?_) | refine cl 93 tt rfl rfl rfl (hr := h2) (k := ?_) | refine cl 94 tt rfl rfl rfl (hr := ho) (k := ?_) | (refine gdLG ?_ ?_ <;> intro _ <;> try (exfalso; omega)))
    | (show awp _ _ _ _; first | refine goA ?_ | refine rg 2 3 ?_ | (refine cdG ?_ ?_ <;> intro _ <;> try (exfalso; omega)))
    | (show andThen _ _ _ _; refine goN ?_)
    | (show inBlock _ _ _ _; refine goB ?_)
    | (show awpR _ _ _ _ _ _ _; first | refine goR ?_ | refine clR 88 tt rfl rfl rfl (hr := hs) (k := ?_) | refine clR 86 tt rfl rfl rfl (hr := na) (k := ?_) | refine clR 86 tt rfl rfl rfl (hr := nb) (k := ?_) | refine clR 92 tt rfl rfl rfl (hr := hg) (k := ?_) | refine clR 93 tt rfl rfl rfl (hr := h1) (k := ?_) | refine clR 93 tt rfl rfl rfl (hr := h2) (k := ?_) | refine clR 94 tt rfl rfl rfl (hr := ho) (k := ?_) | (refine gdRG ?_ ?_ <;> intro _ <;> try (exfalso; omega)))
    | (show retPost _ _ _ _ _; first | refine finF true rfl rfl sc ?_ | refine finF false rfl rfl sc ?_ | refine finC false rfl rfl sc sc ?_ | refine finN rfl rfl sc ?_ | refine finL true rfl rfl sc rfl (LeR.cons rfl leL LeR.nil) ?_ | refine finA true rfl rfl sc ?_ | refine finA false rfl rfl sc ?_ | refine finE true rfl rfl sc ?_ | refine finE false rfl rfl sc ?_))
  · rename_i e
    rw [show dL y.natAbs = [] by rw [dL, if_pos (limbs_inj (e.trans limbs_one.symm))]]
    exact leL
  · rename_i e
    rw [show dL y.natAbs = limbs y.natAbs by rw [dL, if_neg (fun h => e (by rw [h, limbs_one]))]]
    exact leL
theorem ref03_over (a b : Int) (hb : b ≠ 0) (la : (limbs a.natAbs).length < 10000000) (lb : (limbs b.natAbs).length < 10000000) : Ret Tryz.prog 56 [zD a, zD b] (· = rD (rq (Rat.divInt a b))) := by
  rcases Int.lt_or_gt_of_ne hb with h | h
  · exact over_neg a b h la lb
  · exact over_pos a b h la lb

theorem ref03_TakeQ (q : Rat) (h : okQ 10000000 q) : Ret Tryz.prog 55 [rD (rq q)] (· = rD (rq q)) := by
  have hd : (dL q.den).length < 10000000 := by unfold dL; split; decide; exact h.2
  have := ref03_Take (rq q) ⟨(wf_rq q).1, (wf_rq q).2, h.1, hd⟩
  rw [rv_rq] at this; exact this
theorem ref03_Add (r t : R3) (hr : RatOk r 1000000) (ht : RatOk t 1000000) : Ret Tryz.prog 16 [rD r, rD t] (· = rD (rq (rv r + rv t))) := by
  have tr := ref03_Take r ⟨hr.wm, hr.wd, by have := hr.lm; omega, by have := hr.ld; omega⟩
  have tk := ref03_Take t ⟨ht.wm, ht.wd, by have := ht.lm; omega, by have := ht.ld; omega⟩
  have or := okQ_rv hr (by decide)
  have ot := okQ_rv ht (by decide)
  generalize rv r = x at *
  generalize rv t = y at *
  have dx := ref03_Den x (or.mono (by decide))
  have dy := ref03_Den y (ot.mono (by decide))
  obtain ⟨x1, x2⟩ := or
  obtain ⟨y1, y2⟩ := ot
  have m1 := ref02_MulZ x.num y.den (by omega) (by rw [Int.natAbs_natCast]; omega)
  have m2 := ref02_MulZ y.num x.den (by omega) (by rw [Int.natAbs_natCast]; omega)
  have m3 := ref02_MulZ x.den y.den (by rw [Int.natAbs_natCast]; omega) (by rw [Int.natAbs_natCast]; omega)
  have l1 := ln_mul x.num.natAbs y.den
  have l2 := ln_mul y.num.natAbs x.den
  have l3 := ln_mul x.den y.den
  simp only [ln] at l1 l2 l3
  have e1 : (x.num * (y.den : Int)).natAbs = x.num.natAbs * y.den := by rw [Int.natAbs_mul, Int.natAbs_natCast]
  have e2 : (y.num * (x.den : Int)).natAbs = y.num.natAbs * x.den := by rw [Int.natAbs_mul, Int.natAbs_natCast]
  have e3 : ((x.den : Int) * (y.den : Int)).natAbs = x.den * y.den := by rw [Int.natAbs_mul, Int.natAbs_natCast, Int.natAbs_natCast]
  have a1 := ref02_AddZ (x.num * y.den) (y.num * x.den) (by rw [e1]; omega) (by rw [e2]; omega)
  have l4 := ln_mono (Int.natAbs_add_le (x.num * y.den) (y.num * x.den))
  have l5 := ln_add (x.num * (y.den : Int)).natAbs (y.num * (x.den : Int)).natAbs
  simp only [ln] at l4 l5
  rw [e1, e2] at l4 l5
  have o := ref03_over (x.num * y.den + y.num * x.den) (x.den * y.den) (by have := x.den_nz; have := y.den_nz; simp; omega) (by omega) (by rw [e3]; omega)
  rw [show Rat.divInt (x.num * y.den + y.num * x.den) ((x.den : Int) * y.den) = x + y by rw [Rat.add_def', ← Rat.divInt_ofNat]; simp] at o
  refine ret_of_awp tab Tryz.func16 rfl rfl (Nat.le_of_ble_eq_true rfl) (fun w0 F0 => ?_)
  repeat' (first
    | (show awpL _ _ _ _ _; first | refine goL ?_ | refine cl 55 tt rfl rfl rfl (hr := tr) (k := ?_) | refine cl 55 tt rfl rfl rfl (hr := tk) (k := ?_) | refine cl 59 tt rfl rfl rfl (hr := dx) (k := ?_) | refine cl 59 tt rfl rfl rfl (hr := dy) (k := ?_) | refine cl 58 tt rfl rfl rfl (hr := m1) (k := ?_) | refine cl 58 tt rfl rfl rfl (hr := m2) (k := ?_) | refine cl 58 tt rfl rfl rfl (hr := m3) (k := ?_) | refine cl 57 tt rfl rfl rfl (hr := a1) (k := ?_) | refine cl 56 tt rfl rfl rfl (hr := o) (k := ?_) | (refine gdLG ?_ ?_ <;> intro _ <;> try (exfalso; omega)))
    | (show awp _ _ _ _; first | refine goA ?_ | refine rg 1 3 ?_ | refine rg 2 14 ?_ | (refine cdG ?_ ?_ <;> intro _ <;> try (exfalso; omega)))
    | (show andThen _ _ _ _; refine goN ?_)
    | (show inBlock _ _ _ _; refine goB ?_)
    | (show awpR _ _ _ _ _ _ _; first | refine goR ?_ | refine clR 55 tt rfl rfl rfl (hr := tr) (k := ?_) | refine clR 55 tt rfl rfl rfl (hr := tk) (k := ?_) | refine clR 59 tt rfl rfl rfl (hr := dx) (k := ?_) | refine clR 59 tt rfl rfl rfl (hr := dy) (k := ?_) | refine clR 58 tt rfl rfl rfl (hr := m1) (k := ?_) | refine clR 58 tt rfl rfl rfl (hr := m2) (k := ?_) | refine clR 58 tt rfl rfl rfl (hr := m3) (k := ?_) | refine clR 57 tt rfl rfl rfl (hr := a1) (k := ?_) | refine clR 56 tt rfl rfl rfl (hr := o) (k := ?_) | (refine gdRG ?_ ?_ <;> intro _ <;> try (exfalso; omega)))
    | (show retPost _ _ _ _ _; refine finG ?_))
  rfl
theorem ref03_Mul (r t : R3) (hr : RatOk r 1000000) (ht : RatOk t 1000000) : Ret Tryz.prog 17 [rD r, rD t] (· = rD (rq (rv r * rv t))) := by
  have tr := ref03_Take r ⟨hr.wm, hr.wd, by have := hr.lm; omega, by have := hr.ld; omega⟩
  have tk := ref03_Take t ⟨ht.wm, ht.wd, by have := ht.lm; omega, by have := ht.ld; omega⟩
  have or := okQ_rv hr (by decide)
  have ot := okQ_rv ht (by decide)
  generalize rv r = x at *
  generalize rv t = y at *
  have dx := ref03_Den x (or.mono (by decide))
  have dy := ref03_Den y (ot.mono (by decide))
  obtain ⟨x1, x2⟩ := or
  obtain ⟨y1, y2⟩ := ot
  have m1 := ref02_MulZ x.num y.num (by omega) (by omega)
  have m3 := ref02_MulZ x.den y.den (by rw [Int.natAbs_natCast]; omega) (by rw [Int.natAbs_natCast]; omega)
  have l1 := ln_mul x.num.natAbs y.num.natAbs
  have l3 := ln_mul x.den y.den
  simp only [ln] at l1 l3
  have e1 : (x.num * y.num).natAbs = x.num.natAbs * y.num.natAbs := Int.natAbs_mul _ _
  have e3 : ((x.den : Int) * (y.den : Int)).natAbs = x.den * y.den := by rw [Int.natAbs_mul, Int.natAbs_natCast, Int.natAbs_natCast]
  have o := ref03_over (x.num * y.num) (x.den * y.den) (by have := x.den_nz; have := y.den_nz; simp; omega) (by rw [e1]; omega) (by rw [e3]; omega)
  rw [show Rat.divInt (x.num * y.num) ((x.den : Int) * y.den) = x * y by rw [Rat.mul_def', ← Rat.divInt_ofNat]; simp] at o
  refine ret_of_awp tab Tryz.func17 rfl rfl (Nat.le_of_ble_eq_true rfl) (fun w0 F0 => ?_)
  repeat' (first
    | (show awpL _ _ _ _ _; first | refine goL ?_ | refine cl 55 tt rfl rfl rfl (hr := tr) (k := ?_) | refine cl 55 tt rfl rfl rfl (hr := tk) (k := ?_) | refine cl 59 tt rfl rfl rfl (hr := dx) (k := ?_) | refine cl 59 tt rfl rfl rfl (hr := dy) (k := ?_) | refine cl 58 tt rfl rfl rfl (hr := m1) (k := ?_) | refine cl 58 tt rfl rfl rfl (hr := m3) (k := ?_) | refine cl 56 tt rfl rfl rfl (hr := o) (k := ?_) | (refine gdLG ?_ ?_ <;> intro _ <;> try (exfalso; omega)))
    | (show awp _ _ _ _; first | refine goA ?_ | refine rg 1 3 ?_ | refine rg 2 8 ?_ | (refine cdG ?_ ?_ <;> intro _ <;> try (exfalso; omega)))
    | (show andThen _ _ _ _; refine goN ?_)
    | (show inBlock _ _ _ _; refine goB ?_)
    | (show awpR _ _ _ _ _ _ _; first | refine goR ?_ | refine clR 55 tt rfl rfl rfl (hr := tr) (k := ?_) | refine clR 55 tt rfl rfl rfl (hr := tk) (k := ?_) | refine clR 59 tt rfl rfl rfl (hr := dx) (k := ?_) | refine clR 59 tt rfl rfl rfl (hr := dy) (k := ?_) | refine clR 58 tt rfl rfl rfl (hr := m1) (k := ?_) | refine clR 58 tt rfl rfl rfl (hr := m3) (k := ?_) | refine clR 56 tt rfl rfl rfl (hr := o) (k := ?_) | (refine gdRG ?_ ?_ <;> intro _ <;> try (exfalso; omega)))
    | (show retPost _ _ _ _ _; refine finG ?_))
  rfl
theorem ref03_Quo (r t : R3) (hr : RatOk r 1000000) (ht : RatOk t 1000000) (h0 : rv t ≠ 0) : Ret Tryz.prog 51 [rD r, rD t] (· = rD (rq (rv r / rv t))) := by
  have tr := ref03_Take r ⟨hr.wm, hr.wd, by have := hr.lm; omega, by have := hr.ld; omega⟩
  have tk := ref03_Take t ⟨ht.wm, ht.wd, by have := ht.lm; omega, by have := ht.ld; omega⟩
  have or := okQ_rv hr (by decide)
  have ot := okQ_rv ht (by decide)
  generalize rv r = x at *
  generalize rv t = y at *
  have dx := ref03_Den x (or.mono (by decide))
  have dy := ref03_Den y (ot.mono (by decide))
  obtain ⟨x1, x2⟩ := or
  obtain ⟨y1, y2⟩ := ot
  have hy : y.num ≠ 0 := mt Rat.num_eq_zero.1 h0
  have m1 := ref02_MulZ x.num y.den (by omega) (by rw [Int.natAbs_natCast]; omega)
  have m3 := ref02_MulZ x.den y.num (by rw [Int.natAbs_natCast]; omega) (by omega)
  have l1 := ln_mul x.num.natAbs y.den
  have l3 := ln_mul x.den y.num.natAbs
  simp only [ln] at l1 l3
  have e1 : (x.num * (y.den : Int)).natAbs = x.num.natAbs * y.den := by rw [Int.natAbs_mul, Int.natAbs_natCast]
  have e3 : ((x.den : Int) * y.num).natAbs = x.den * y.num.natAbs := by rw [Int.natAbs_mul, Int.natAbs_natCast]
  have o := ref03_over (x.num * y.den) (x.den * y.num) (by have := x.den_nz; exact Int.mul_ne_zero (by omega) hy) (by rw [e1]; omega) (by rw [e3]; omega)
  rw [show Rat.divInt (x.num * y.den) ((x.den : Int) * y.num) = x / y by
    rw [Rat.div_def]
    conv => rhs; rw [← Rat.num_divInt_den x, ← Rat.num_divInt_den y]
    rw [Rat.inv_divInt, Rat.divInt_mul_divInt]] at o
  refine ret_of_awp tab Tryz.func51 rfl rfl (Nat.le_of_ble_eq_true rfl) (fun w0 F0 => ?_)
  repeat' (first
    | (show awpL _ _ _ _ _; first | refine goL ?_ | refine cl 55 tt rfl rfl rfl (hr := tr) (k := ?_) | refine cl 55 tt rfl rfl rfl (hr := tk) (k := ?_) | refine cl 59 tt rfl rfl rfl (hr := dx) (k := ?_) | refine cl 59 tt rfl rfl rfl (hr := dy) (k := ?_) | refine cl 58 tt rfl rfl rfl (hr := m1) (k := ?_) | refine cl 58 tt rfl rfl rfl (hr := m3) (k := ?_) | refine cl 56 tt rfl rfl rfl (hr := o) (k := ?_) | (refine gdLG ?_ ?_ <;> intro _ <;> try (exfalso; omega)))
    | (show awp _ _ _ _; first | refine goA ?_ | refine rg 1 3 ?_ | refine rg 2 9 ?_ | (refine cdG ?_ ?_ <;> intro _ <;> try (exfalso; omega)))
    | (show andThen _ _ _ _; refine goN ?_)
    | (show inBlock _ _ _ _; refine goB ?_)
    | (show awpR _ _ _ _ _ _ _; first | refine goR ?_ | refine clR 55 tt rfl rfl rfl (hr := tr) (k := ?_) | refine clR 55 tt rfl rfl rfl (hr := tk) (k := ?_) | refine clR 59 tt rfl rfl rfl (hr := dx) (k := ?_) | refine clR 59 tt rfl rfl rfl (hr := dy) (k := ?_) | refine clR 58 tt rfl rfl rfl (hr := m1) (k := ?_) | refine clR 58 tt rfl rfl rfl (hr := m3) (k := ?_) | refine clR 56 tt rfl rfl rfl (hr := o) (k := ?_) | (refine gdRG ?_ ?_ <;> intro _ <;> try (exfalso; omega)))
    | (show retPost _ _ _ _ _; refine finG ?_))
  rfl
theorem ref03_Sign (r : R3) (hr : RatOk r 1000000) : Ret Tryz.prog 52 [rD r] (· = .int .i64 (rv r).num.sign) := by
  have tr := ref03_Take r ⟨hr.wm, hr.wd, by have := hr.lm; omega, by have := hr.ld; omega⟩
  have or := okQ_rv hr (by decide)
  generalize rv r = x at *
  have hs := ref02_SignZ x.num (by have := or.1; omega)
  refine ret_of_awp tab Tryz.func52 rfl rfl (Nat.le_of_ble_eq_true rfl) (fun w0 F0 => ?_)
  repeat' (first
    | (show awpL _ _ _ _ _; first | refine goL ?_ | refine cl 55 tt rfl rfl rfl (hr := tr) (k := ?_) | refine cl 88 tt rfl rfl rfl (hr := hs) (k := ?_) | (refine gdLG ?_ ?_ <;> intro _ <;> try (exfalso; omega)))
    | (show awp _ _ _ _; first | refine goA ?_ | (refine cdG ?_ ?_ <;> intro _ <;> try (exfalso; omega)))
    | (show andThen _ _ _ _; refine goN ?_)
    | (show inBlock _ _ _ _; refine goB ?_)
    | (show retPost _ _ _ _ _; refine finG ?_))
  rfl
theorem ref03_Neg (r : R3) (hr : RatOk r 1000000) : Ret Tryz.prog 60 [rD r] (· = rD (rq (-rv r))) := by
  have tr := ref03_Take r ⟨hr.wm, hr.wd, by have := hr.lm; omega, by have := hr.ld; omega⟩
  have or := okQ_rv hr (by decide)
  generalize rv r = x at *
  have hs := ref02_NegZ x.num (by have := or.1; omega)
  have e : rq (-x) = (decide (-x.num < 0), limbs (-x.num).natAbs, dL x.den) := rfl
  rw [e]
  refine ret_of_awp tab Tryz.func60 rfl rfl (Nat.le_of_ble_eq_true rfl) (fun w0 F0 => ?_)
  repeat' (first
    | (show awpL _ _ _ _ _; first | refine goL ?_ | refine cl 55 tt rfl rfl rfl (hr := tr) (k := ?_) | refine cl 86 tt rfl rfl rfl (hr := hs) (k := ?_) | (refine gdLG ?_ ?_ <;> intro _ <;> try (exfalso; omega)))
    | (show awp _ _ _ _; first | refine goA ?_ | refine rg 2 5 ?_ | (refine cdG ?_ ?_ <;> intro _ <;> try (exfalso; omega)))
    | (show andThen _ _ _ _; refine goN ?_)
    | (show inBlock _ _ _ _; refine goB ?_)
    | (show awpR _ _ _ _ _ _ _; first | refine goR ?_ | refine clR 55 tt rfl rfl rfl (hr := tr) (k := ?_) | refine clR 86 tt rfl rfl rfl (hr := hs) (k := ?_) | (refine gdRG ?_ ?_ <;> intro _ <;> try (exfalso; omega)))
    | (show retPost _ _ _ _ _; refine finG ?_))
  rfl
theorem ok_rq {q : Rat} {k : Nat} (h : okQ k q) : RatOk (rq q) k := by
  refine ⟨(wf_rq q).1, (wf_rq q).2, h.1, ?_⟩
  show (dL q.den).length < k
  unfold dL; split
  · exact Nat.lt_of_le_of_lt (Nat.zero_le _) h.1
  · exact h.2
theorem ref03_AddQ (x y : Rat) (hx : okQ 1000000 x) (hy : okQ 1000000 y) : Ret Tryz.prog 16 [rD (rq x), rD (rq y)] (· = rD (rq (x + y))) := by
  have := ref03_Add (rq x) (rq y) (ok_rq hx) (ok_rq hy)
  rw [rv_rq, rv_rq] at this; exact this
theorem ref03_MulQ (x y : Rat) (hx : okQ 1000000 x) (hy : okQ 1000000 y) : Ret Tryz.prog 17 [rD (rq x), rD (rq y)] (· = rD (rq (x * y))) := by
  have := ref03_Mul (rq x) (rq y) (ok_rq hx) (ok_rq hy)
  rw [rv_rq, rv_rq] at this; exact this
theorem ref03_SignQ (x : Rat) (hx : okQ 1000000 x) : Ret Tryz.prog 52 [rD (rq x)] (· = .int .i64 x.num.sign) := by
  have := ref03_Sign (rq x) (ok_rq hx)
  rw [rv_rq] at this; exact this
theorem ref03_QuoQ (x y : Rat) (hx : okQ 1000000 x) (hy : okQ 1000000 y) (h0 : y ≠ 0) : Ret Tryz.prog 51 [rD (rq x), rD (rq y)] (· = rD (rq (x / y))) := by
  have := ref03_Quo (rq x) (rq y) (ok_rq hx) (ok_rq hy) (by rw [rv_rq]; exact h0)
  rw [rv_rq, rv_rq] at this; exact this
theorem ref03_NegQ (x : Rat) (hx : okQ 1000000 x) : Ret Tryz.prog 60 [rD (rq x)] (· = rD (rq (-x))) := by
  have := ref03_Neg (rq x) (ok_rq hx)
  rw [rv_rq] at this; exact this
end Go.Proofs.YtfnckkfbnnbmkaaGreat

set_option linter.unusedVariables false
set_option linter.unusedSimpArgs false
namespace Go.Proofs.YtfnckkfbnnbmkaaGreat
open Go.Vw
attribute [local irreducible] awp awpL awpR

theorem rational_one : Ret Tryz.prog 130 [] (· = u32s [1]) := by
  refine ret_of_awp tab Tryz.func130 rfl rfl (Nat.le_of_ble_eq_true rfl) (fun w0 F0 => ?_)
  repeat' (first
    | (show awpL _ _ _ _ _; first | refine goL ?_ | (refine gdLG ?_ ?_ <;> intro _ <;> try (exfalso; omega)))
    | (show awp _ _ _ _; first | refine goA ?_ | (refine cdG ?_ ?_ <;> intro _ <;> try (exfalso; omega)))
    | (show andThen _ _ _ _; refine goN ?_)
    | (show inBlock _ _ _ _; refine goB ?_)
    | (show retPost _ _ _ _ _; refine finG ?_))
  rfl
theorem nv_one : nv [1] = 1 := by decide
theorem natural_CompareOne (d : List Nat) (wd : WF d) (hl : d.length < 1000000000) : Ret Tryz.prog 129 [u32s d, u32s [1]] (· = .int .i64 (cmpN (nv d) 1)) := by
  have := natural_Compare d [1] wd (by intro x hx; simp at hx; subst hx; decide) hl (by decide)
  rw [nv_one] at this
  exact this
theorem rational_Valid (r : R3) (h : RatOk r 10000000) : Ret Tryz.prog 128 [rD r] (· = .bool (validR r)) := by
  obtain ⟨n, m, d⟩ := r
  obtain ⟨wm, wd, lm, ld⟩ := h
  simp only at wm wd lm ld
  have hi := integer_Valid n m (by omega)
  have hd := natural_Valid d (by omega)
  have h1 := rational_one
  have hc := natural_CompareOne d wd (by omega)
  unfold validR
  cases hvi : validI n m with
  | false =>
    rw [hvi] at hi
    refine ret_of_awp tab Tryz.func128 rfl rfl (Nat.le_of_ble_eq_true rfl) (fun w0 F0 => ?_)
    repeat' (first
      | (show awpL _ _ _ _ _; first | refine goL ?_ | refine cl 137 tt rfl rfl rfl (hr := hi) (k := ?_) | (refine gdLG ?_ ?_ <;> intro _ <;> try (exfalso; omega)))
      | (show awp _ _ _ _; first | refine goA ?_ | refine rg 5 9 ?_ | (refine cdG ?_ ?_ <;> intro _ <;> try (exfalso; omega)))
      | (show andThen _ _ _ _; refine goN ?_)
      | (show inBlock _ _ _ _; refine goB ?_)
      | (show awpR _ _ _ _ _ _ _; first | refine goR ?_ | refine clR 137 tt rfl rfl rfl (hr := hi) (k := ?_) | (refine gdRG ?_ ?_ <;> intro _ <;> try (exfalso; omega)))
      | (show retPost _ _ _ _ _; refine finG ?_))
    rfl
  | true =>
    rw [hvi] at hi
    cases hvd : valid d with
    | false =>
      rw [hvd] at hd
      refine ret_of_awp tab Tryz.func128 rfl rfl (Nat.le_of_ble_eq_true rfl) (fun w0 F0 => ?_)
      repeat' (first
        | (show awpL _ _ _ _ _; first | refine goL ?_ | refine cl 137 tt rfl rfl rfl (hr := hi) (k := ?_) | refine cl 154 tt rfl rfl rfl (hr := hd) (k := ?_) | (refine gdLG ?_ ?_ <;> intro _ <;> try (exfalso; omega)))
        | (show awp _ _ _ _; first | refine goA ?_ | refine rg 5 9 ?_ | (refine cdG ?_ ?_ <;> intro _ <;> try (exfalso; omega)))
        | (show andThen _ _ _ _; refine goN ?_)
        | (show inBlock _ _ _ _; refine goB ?_)
        | (show awpR _ _ _ _ _ _ _; first | refine goR ?_ | refine clR 137 tt rfl rfl rfl (hr := hi) (k := ?_) | refine clR 154 tt rfl rfl rfl (hr := hd) (k := ?_) | (refine gdRG ?_ ?_ <;> intro _ <;> try (exfalso; omega)))
        | (show retPost _ _ _ _ _; refine finG ?_))
      rfl
    | true =>
      rw [hvd] at hd
      have hm : valid m = true := by unfold validI at hvi; simp at hvi; exact hvi.1
      have em := limbs_nv wm hm
      have ed := limbs_nv wd hvd
      have hg := natural_GcdN (nv m) (nv d) (by rw [em]; exact lm) (by rw [ed]; exact ld)
      have lg : (limbs (Nat.gcd (nv m) (nv d))).length < 1000000000 := by
        by_cases h0 : nv m = 0
        · rw [h0, Nat.gcd_zero_left, ed]; omega
        · have := limbs_len_mono (Nat.gcd_le_left (nv d) (Nat.pos_of_ne_zero h0)); rw [em] at this; omega
      have hc2 := natural_CompareOne (limbs (Nat.gcd (nv m) (nv d))) (wf_limbs _) lg
      rw [nv_limbs] at hc2
      rw [em, ed] at hg
      have z1 := cmpN_zero (nv d) 1
      have z2 := cmpN_zero (Nat.gcd (nv m) (nv d)) 1
      have e1 : d = [1] ↔ nv d = 1 := ⟨fun e => by rw [e]; exact nv_one, fun e => by rw [← ed, e, limbs_one]⟩
      have e2 : limbs (Nat.gcd (nv m) (nv d)) = [1] ↔ Nat.gcd (nv m) (nv d) = 1 := ⟨fun e => limbs_inj (e.trans limbs_one.symm), fun e => by rw [e, limbs_one]⟩
      have e3 : d = [] ↔ d.length = 0 := List.length_eq_zero_iff.symm
      have e4 : m = [] ↔ m.length = 0 := List.length_eq_zero_iff.symm
      rw [show decide (d = [1]) = decide (cmpN (nv d) 1 = 0) from decide_eq_decide.2 (e1.trans z1.symm), show decide (d = []) = decide (d.length = 0) from decide_eq_decide.2 e3, show decide (limbs (Nat.gcd (nv m) (nv d)) = [1]) = decide (cmpN (Nat.gcd (nv m) (nv d)) 1 = 0) from decide_eq_decide.2 (e2.trans z2.symm), show decide (m ≠ []) = decide (m.length ≠ 0) from decide_eq_decide.2 (not_congr e4)]
      have e5 : d.length = 0 → cmpN (nv d) 1 ≠ 0 := fun h => by
        have : nv d = 0 := by rw [e3.2 h]; rfl
        rw [ne_eq, z1]; omega
      clear e1 e2 e3 e4 em ed z1 z2
      generalize cmpN (nv d) 1 = c1 at *
      generalize cmpN (Nat.gcd (nv m) (nv d)) 1 = c2 at *
      refine ret_of_awp tab Tryz.func128 rfl rfl (Nat.le_of_ble_eq_true rfl) (fun w0 F0 => ?_)
      repeat' (first
        | (show awpL _ _ _ _ _; first | refine goL ?_ | refine cl 137 tt rfl rfl rfl (hr := hi) (k := ?_) | refine cl 154 tt rfl rfl rfl (hr := hd) (k := ?_) | refine cl 130 tt rfl rfl rfl (hr := h1) (k := ?_) | refine cl 129 tt rfl rfl rfl (hr := hc) (k := ?_) | refine cl 133 tt rfl rfl rfl (hr := hg) (k := ?_) | refine cl 129 tt rfl rfl rfl (hr := hc2) (k := ?_) | (refine gdLG ?_ ?_ <;> intro _ <;> try (exfalso; omega)))
        | (show awp _ _ _ _; first | refine goA ?_ | refine rg 5 9 ?_ | (refine cdG ?_ ?_ <;> intro _ <;> try (exfalso; omega)))
        | (show andThen _ _ _ _; refine goN ?_)
        | (show inBlock _ _ _ _; refine goB ?_)
        | (show awpR _ _ _ _ _ _ _; first | refine goR ?_ | refine clR 137 tt rfl rfl rfl (hr := hi) (k := ?_) | refine clR 154 tt rfl rfl rfl (hr := hd) (k := ?_) | refine clR 130 tt rfl rfl rfl (hr := h1) (k := ?_) | refine clR 129 tt rfl rfl rfl (hr := hc) (k := ?_) | refine clR 133 tt rfl rfl rfl (hr := hg) (k := ?_) | refine clR 129 tt rfl rfl rfl (hr := hc2) (k := ?_) | (refine gdRG ?_ ?_ <;> intro _ <;> try (exfalso; omega)))
        | (show retPost _ _ _ _ _; refine finG ?_))
      · rename_i x
        have x : d.length = 0 := Int.ofNat_eq_zero.1 x
        simp [x, e5 x]
      · rename_i x y
        have x := mt Int.ofNat_eq_zero.2 x
        have y := Int.ofNat_eq_zero.1 y
        simp [show ¬ d.length = 0 from x, show m.length = 0 from y]
      · rename_i x y z
        simp [z]
      · rename_i x y z
        have x := mt Int.ofNat_eq_zero.2 x
        have y := mt Int.ofNat_eq_zero.2 y
        simp [show ¬ d.length = 0 from x, show ¬ m.length = 0 from y, z]
theorem rational_value (r : R3) (h : RatOk r 10000000) : Ret Tryz.prog 102 [rD r] (· = rD (rq (rv r))) := by
  have hv := rational_Valid r h
  have e := rq_rv (r := r)
  have e0 := rv_invalid (r := r)
  cases hr : validR r with
  | false =>
    rw [hr] at hv
    rw [e0 hr, rq_zero]
    refine ret_of_awp tab Tryz.func102 rfl rfl (Nat.le_of_ble_eq_true rfl) (fun w0 F0 => ?_)
    repeat' (first
      | (show awpL _ _ _ _ _; first | refine goL ?_ | refine cl 128 tt rfl rfl rfl (hr := hv) (k := ?_) | (refine gdLG ?_ ?_ <;> intro _ <;> try (exfalso; omega)))
      | (show awp _ _ _ _; first | refine goA ?_ | (refine cdG ?_ ?_ <;> intro _ <;> try (exfalso; omega)))
      | (show andThen _ _ _ _; refine goN ?_)
      | (show inBlock _ _ _ _; refine goB ?_)
      | (show retPost _ _ _ _ _; first | refine finF true rfl rfl sc ?_ | refine finF false rfl rfl sc ?_ | refine finC false rfl rfl sc sc ?_ | refine finN rfl rfl sc ?_ | refine finL true rfl rfl sc rfl (LeR.cons rfl leL LeR.nil) ?_ | refine finA true rfl rfl sc ?_ | refine finA false rfl rfl sc ?_ | refine finE true rfl rfl sc ?_ | refine finE false rfl rfl sc ?_))
    exact leL
  | true =>
    rw [hr] at hv
    rw [e hr h.wm h.wd]
    refine ret_of_awp tab Tryz.func102 rfl rfl (Nat.le_of_ble_eq_true rfl) (fun w0 F0 => ?_)
    repeat' (first
      | (show awpL _ _ _ _ _; first | refine goL ?_ | refine cl 128 tt rfl rfl rfl (hr := hv) (k := ?_) | (refine gdLG ?_ ?_ <;> intro _ <;> try (exfalso; omega)))
      | (show awp _ _ _ _; first | refine goA ?_ | (refine cdG ?_ ?_ <;> intro _ <;> try (exfalso; omega)))
      | (show andThen _ _ _ _; refine goN ?_)
      | (show inBlock _ _ _ _; refine goB ?_)
      | (show retPost _ _ _ _ _; refine finG ?_))
    rfl
theorem rational_valueQ (q : Rat) (h : okQ 10000000 q) : Ret Tryz.prog 102 [rD (rq q)] (· = rD (rq q)) := by
  have := rational_value (rq q) (ok_rq h)
  rw [rv_rq] at this
  exact this
theorem rational_den (q : Rat) (h : okQ 10000000 q) : Ret Tryz.prog 105 [rD (rq q)] (· = u32s (limbs q.den)) := by
  have h1 := rational_one
  by_cases hq : q.den = 1
  · have e : rq q = (decide (q.num < 0), limbs q.num.natAbs, []) := by rw [rq, hq]; rfl
    rw [e, hq, limbs_one]
    refine ret_of_awp tab Tryz.func105 rfl rfl (Nat.le_of_ble_eq_true rfl) (fun w0 F0 => ?_)
    repeat' (first
      | (show awpL _ _ _ _ _; first | refine goL ?_ | refine cl 130 tt rfl rfl rfl (hr := h1) (k := ?_) | (refine gdLG ?_ ?_ <;> intro _ <;> try (exfalso; omega)))
      | (show awp _ _ _ _; first | refine goA ?_ | (refine cdG ?_ ?_ <;> intro _ <;> try (exfalso; omega)))
      | (show andThen _ _ _ _; refine goN ?_)
      | (show inBlock _ _ _ _; refine goB ?_)
      | (show retPost _ _ _ _ _; refine finG ?_))
    rfl
  · have e : rq q = (decide (q.num < 0), limbs q.num.natAbs, limbs q.den) := by rw [rq, dL, if_neg hq]
    have l0 : (limbs q.den).length ≠ 0 := fun e => q.den_nz (limbs_eq_nil.1 (List.length_eq_zero_iff.1 e))
    rw [e]
    show Ret _ _ [.agg [.bool (decide (q.num < 0)), u32s (limbs q.num.natAbs), u32s (limbs q.den)]] _
    refine ret_of_awp tab Tryz.func105 rfl rfl (Nat.le_of_ble_eq_true rfl) (fun w0 F0 => ?_)
    repeat' (first
      | (show awpL _ _ _ _ _; first | refine goL ?_ | (refine gdLG ?_ ?_ <;> intro _ <;> try (exfalso; omega)))
      | (show awp _ _ _ _; first | refine goA ?_ | (refine cdG ?_ ?_ <;> intro _ <;> try (exfalso; omega)))
      | (show andThen _ _ _ _; refine goN ?_)
      | (show inBlock _ _ _ _; refine goB ?_)
      | (show retPost _ _ _ _ _; refine finG ?_))
    rfl
theorem lowest_parts (z : Int) (d : Nat) (hd : d ≠ 0) : rq (Rat.divInt z d) = (decide (z < 0), limbs (z.natAbs / Nat.gcd z.natAbs d), dL (d / Nat.gcd z.natAbs d)) := by
  have hg : 0 < Nat.gcd z.natAbs d := Nat.gcd_pos_of_pos_right _ (by omega)
  rw [divInt_parts z d (by omega)]
  have e1 : (Int.gcd z d : Nat) = Nat.gcd z.natAbs d := by unfold Int.gcd; rw [Int.natAbs_natCast]
  rw [e1]
  generalize hgg : Nat.gcd z.natAbs d = g at *
  have hdv : (g : Int) ∣ z := by rw [← Int.natAbs_dvd_natAbs, Int.natAbs_natCast, ← hgg]; exact Nat.gcd_dvd_left _ _
  obtain ⟨k, rfl⟩ := hdv
  have hgi : (0 : Int) < g := by omega
  rw [Int.mul_ediv_cancel_left _ (by omega), Int.natAbs_mul, Int.natAbs_natCast, Nat.mul_div_cancel_left _ hg]
  have e2 : ((d : Int) / (g : Int)).natAbs = d / g := by rw [← Int.natCast_ediv, Int.natAbs_natCast]
  rw [e2]
  congr 1
  refine decide_eq_decide.2 ?_
  constructor
  · intro h; exact Int.mul_neg_of_pos_of_neg hgi h
  · intro h
    exact Classical.byContradiction fun hn => by
      have := Int.mul_nonneg (Int.le_of_lt hgi) (show 0 ≤ k by omega)
      omega
theorem rational_lowest (z : Int) (d : Nat) (hd : d ≠ 0) (lz : (limbs z.natAbs).length < 10000000) (ld : (limbs d).length < 10000000) : Ret Tryz.prog 108 [zD z, u32s (limbs d)] (· = rD (rq (Rat.divInt z d))) := by
  have h1 := rational_one
  have hgp : 0 < Nat.gcd z.natAbs d := Nat.gcd_pos_of_pos_right _ (by omega)
  have hg := natural_GcdN z.natAbs d lz ld
  have hgl := len_bound (Nat.le_of_dvd (by omega) (Nat.gcd_dvd_right z.natAbs d)) ld
  rw [lowest_parts z d hd]
  show Ret _ _ _ (· = .agg [.bool (decide (z < 0)), u32s (limbs (z.natAbs / Nat.gcd z.natAbs d)), u32s (dL (d / Nat.gcd z.natAbs d))])
  have h2 := natural_DivN z.natAbs (Nat.gcd z.natAbs d) (by omega) (by omega) (by omega)
  have h3 := natural_DivN d (Nat.gcd z.natAbs d) (by omega) (by omega) (by omega)
  have hq := len_bound (Nat.div_le_self d (Nat.gcd z.natAbs d)) ld
  have hc := natural_CompareOne (limbs (d / Nat.gcd z.natAbs d)) (wf_limbs _) (by omega)
  rw [nv_limbs] at hc
  have hz := cmpN_zero (d / Nat.gcd z.natAbs d) 1
  clear hgp
  generalize z.natAbs / Nat.gcd z.natAbs d = p at *
  generalize d / Nat.gcd z.natAbs d = q at *
  generalize Nat.gcd z.natAbs d = g at *
  unfold dL
  by_cases hq1 : q = 1
  · rw [if_pos hq1]
    rw [hz.2 hq1] at hc
    refine ret_of_awp tab Tryz.func108 rfl rfl (Nat.le_of_ble_eq_true rfl) (fun w0 F0 => ?_)
    repeat' (first
      | (show awpL _ _ _ _ _; first | refine goL ?_ | refine cl 130 tt rfl rfl rfl (hr := h1) (k := ?_) | refine cl 133 tt rfl rfl rfl (hr := hg) (k := ?_) | refine cl 134 tt rfl rfl rfl (hr := h2) (k := ?_) | refine cl 134 tt rfl rfl rfl (hr := h3) (k := ?_) | refine cl 129 tt rfl rfl rfl (hr := hc) (k := ?_) | (refine gdLG ?_ ?_ <;> intro _ <;> try (exfalso; omega)))
      | (show awp _ _ _ _; first | refine goA ?_ | (refine cdG ?_ ?_ <;> intro _ <;> try (exfalso; omega)))
      | (show andThen _ _ _ _; refine goN ?_)
      | (show inBlock _ _ _ _; refine goB ?_)
      | (show retPost _ _ _ _ _; first | refine finF true rfl rfl sc ?_ | refine finF false rfl rfl sc ?_ | refine finC false rfl rfl sc sc ?_ | refine finN rfl rfl sc ?_ | refine finL true rfl rfl sc rfl (LeR.cons rfl leL LeR.nil) ?_ | refine finA true rfl rfl sc ?_ | refine finA false rfl rfl sc ?_ | refine finE true rfl rfl sc ?_ | refine finE false rfl rfl sc ?_))
    exact leL
  · rw [if_neg hq1]
    have hcz := mt hz.1 hq1
    generalize cmpN q 1 = c at *
    refine ret_of_awp tab Tryz.func108 rfl rfl (Nat.le_of_ble_eq_true rfl) (fun w0 F0 => ?_)
    repeat' (first
      | (show awpL _ _ _ _ _; first | refine goL ?_ | refine cl 130 tt rfl rfl rfl (hr := h1) (k := ?_) | refine cl 133 tt rfl rfl rfl (hr := hg) (k := ?_) | refine cl 134 tt rfl rfl rfl (hr := h2) (k := ?_) | refine cl 134 tt rfl rfl rfl (hr := h3) (k := ?_) | refine cl 129 tt rfl rfl rfl (hr := hc) (k := ?_) | (refine gdLG ?_ ?_ <;> intro _ <;> try (exfalso; omega)))
      | (show awp _ _ _ _; first | refine goA ?_ | (refine cdG ?_ ?_ <;> intro _ <;> try (exfalso; omega)))
      | (show andThen _ _ _ _; refine goN ?_)
      | (show inBlock _ _ _ _; refine goB ?_)
      | (show retPost _ _ _ _ _; refine finG ?_))
    rfl
end Go.Proofs.YtfnckkfbnnbmkaaGreat

/-
  Rational numbers: comparison, whole numbers, bounds. Conditions: as each says.
-/
set_option linter.unusedVariables false
set_option linter.unusedSimpArgs false
namespace Go.Vw
theorem RatOk.up {r : R3} {k l : Nat} (h : RatOk r k) (hl : k ≤ l) : RatOk r l := ⟨h.wm, h.wd, Nat.lt_of_lt_of_le h.lm hl, Nat.lt_of_lt_of_le h.ld hl⟩
/-- -1, 0 or 1. -/
def cmpQ (x y : Rat) : Int := if x < y then -1 else if y < x then 1 else 0
theorem cmpQ_eq (x y : Rat) : cmpQ x y = if x.num * y.den < y.num * x.den then -1 else if y.num * x.den < x.num * y.den then 1 else 0 := by
  unfold cmpQ
  simp only [Rat.lt_iff]
theorem okQ.dl {q : Rat} {k : Nat} (h : okQ k q) : (dL q.den).length < k := by
  unfold dL; split
  · exact Nat.lt_of_le_of_lt (Nat.zero_le _) h.1
  · exact h.2
theorem dL_nil {d : Nat} (h0 : d ≠ 0) : (dL d).length = 0 ↔ d = 1 := by
  unfold dL
  split
  · rename_i h; simp [h]
  · rename_i h
    simp only [h, iff_false]
    exact fun e => h0 (limbs_eq_nil.1 (List.length_eq_zero_iff.1 e))
theorem int_of_den {x : Rat} (h : x.den = 1) : x = (x.num : Rat) := by
  apply Rat.ext
  · rfl
  · rw [h]; rfl
theorem divInt_abs (a b : Int) : Rat.divInt (if b < 0 then -a else a) (b.natAbs : Int) = Rat.divInt a b := by
  split
  · rename_i h
    rw [← Rat.neg_divInt_neg, Int.neg_neg]
    congr 1; omega
  · congr 1; omega
theorem divInt_div (x y : Rat) : Rat.divInt (x.num * y.den) (y.num * x.den) = x / y := by
  rw [Rat.div_def]
  conv => rhs; rw [← Rat.num_divInt_den x, ← Rat.num_divInt_den y]
  rw [Rat.inv_divInt, Rat.divInt_mul_divInt, Int.mul_comm y.num]
end Go.Vw

set_option linter.unusedVariables false
set_option linter.unusedSimpArgs false
namespace Go.Proofs.YtfnckkfbnnbmkaaGreat
open Go.Vw
attribute [local irreducible] awp awpL awpR

theorem rational_times (z : Int) (n : Nat) (hz : (limbs z.natAbs).length < 10000000) (hn : (limbs n).length < 10000000) : Ret Tryz.prog 104 [zD z, u32s (limbs n)] (· = zD (z * n)) := by
  have hm := integer_MulZ z n (by omega) (by rw [Int.natAbs_natCast]; omega)
  rw [zD_nat] at hm
  refine ret_of_awp tab Tryz.func104 rfl rfl (Nat.le_of_ble_eq_true rfl) (fun w0 F0 => ?_)
  repeat' (first
    | (show awpL _ _ _ _ _; first | refine goL ?_ | refine cl 107 tt rfl rfl rfl (hr := hm) (k := ?_) | (refine gdLG ?_ ?_ <;> intro _ <;> try (exfalso; omega)))
    | (show awp _ _ _ _; first | refine goA ?_ | (refine cdG ?_ ?_ <;> intro _ <;> try (exfalso; omega)))
    | (show andThen _ _ _ _; refine goN ?_)
    | (show inBlock _ _ _ _; refine goB ?_)
    | (show retPost _ _ _ _ _; first | refine finF true rfl rfl sc ?_ | refine finF false rfl rfl sc ?_ | refine finC false rfl rfl sc sc ?_ | refine finN rfl rfl sc ?_ | refine finL true rfl rfl sc rfl (LeR.cons rfl leL LeR.nil) ?_ | refine finA true rfl rfl sc ?_ | refine finA false rfl rfl sc ?_ | refine finE true rfl rfl sc ?_ | refine finE false rfl rfl sc ?_))
  exact leL
theorem rational_Compare (r t : R3) (hr : RatOk r 1000000) (ht : RatOk t 1000000) : Ret Tryz.prog 69 [rD r, rD t] (· = .int .i64 (cmpQ (rv r) (rv t))) := by
  have tr := rational_value r (hr.up (by decide))
  have tk := rational_value t (ht.up (by decide))
  have or := okQ_rv hr (by decide)
  have ot := okQ_rv ht (by decide)
  generalize rv r = x at *
  generalize rv t = y at *
  have dx := rational_den x (or.mono (by decide))
  have dy := rational_den y (ot.mono (by decide))
  obtain ⟨x1, x2⟩ := or
  obtain ⟨y1, y2⟩ := ot
  have m1 := rational_times x.num y.den (by omega) (by omega)
  have m2 := rational_times y.num x.den (by omega) (by omega)
  have l1 := ln_mul x.num.natAbs y.den
  have l2 := ln_mul y.num.natAbs x.den
  simp only [ln] at l1 l2
  have e1 : (x.num * (y.den : Int)).natAbs = x.num.natAbs * y.den := by rw [Int.natAbs_mul, Int.natAbs_natCast]
  have e2 : (y.num * (x.den : Int)).natAbs = y.num.natAbs * x.den := by rw [Int.natAbs_mul, Int.natAbs_natCast]
  have hc := integer_CompareZ (x.num * y.den) (y.num * x.den) (by rw [e1]; omega) (by rw [e2]; omega)
  rw [cmpQ_eq]
  refine ret_of_awp tab Tryz.func69 rfl rfl (Nat.le_of_ble_eq_true rfl) (fun w0 F0 => ?_)
  repeat' (first
    | (show awpL _ _ _ _ _; first | refine goL ?_ | refine cl 102 tt rfl rfl rfl (hr := tr) (k := ?_) | refine cl 102 tt rfl rfl rfl (hr := tk) (k := ?_) | refine cl 105 tt rfl rfl rfl (hr := dx) (k := ?_) | refine cl 105 tt rfl rfl rfl (hr := dy) (k := ?_) | refine cl 104 tt rfl rfl rfl (hr := m1) (k := ?_) | refine cl 104 tt rfl rfl rfl (hr := m2) (k := ?_) | refine cl 103 tt rfl rfl rfl (hr := hc) (k := ?_) | (refine gdLG ?_ ?_ <;> intro _ <;> try (exfalso; omega)))
    | (show awp _ _ _ _; first | refine goA ?_ | refine rg 1 3 ?_ | refine rg 2 9 ?_ | (refine cdG ?_ ?_ <;> intro _ <;> try (exfalso; omega)))
    | (show andThen _ _ _ _; refine goN ?_)
    | (show inBlock _ _ _ _; refine goB ?_)
    | (show awpR _ _ _ _ _ _ _; first | refine goR ?_ | refine clR 102 tt rfl rfl rfl (hr := tr) (k := ?_) | refine clR 102 tt rfl rfl rfl (hr := tk) (k := ?_) | refine clR 105 tt rfl rfl rfl (hr := dx) (k := ?_) | refine clR 105 tt rfl rfl rfl (hr := dy) (k := ?_) | refine clR 104 tt rfl rfl rfl (hr := m1) (k := ?_) | refine clR 104 tt rfl rfl rfl (hr := m2) (k := ?_) | refine clR 103 tt rfl rfl rfl (hr := hc) (k := ?_) | (refine gdRG ?_ ?_ <;> intro _ <;> try (exfalso; omega)))
    | (show retPost _ _ _ _ _; refine finG ?_))
  rfl
theorem rational_Sign (r : R3) (hr : RatOk r 1000000) : Ret Tryz.prog 68 [rD r] (· = .int .i64 (rv r).num.sign) := by
  have tr := rational_value r (hr.up (by decide))
  have or := okQ_rv hr (by decide)
  generalize rv r = x at *
  have hs := integer_SignZ x.num (by have := or.1; omega)
  refine ret_of_awp tab Tryz.func68 rfl rfl (Nat.le_of_ble_eq_true rfl) (fun w0 F0 => ?_)
  repeat' (first
    | (show awpL _ _ _ _ _; first | refine goL ?_ | refine cl 102 tt rfl rfl rfl (hr := tr) (k := ?_) | refine cl 101 tt rfl rfl rfl (hr := hs) (k := ?_) | (refine gdLG ?_ ?_ <;> intro _ <;> try (exfalso; omega)))
    | (show awp _ _ _ _; first | refine goA ?_ | (refine cdG ?_ ?_ <;> intro _ <;> try (exfalso; omega)))
    | (show andThen _ _ _ _; refine goN ?_)
    | (show inBlock _ _ _ _; refine goB ?_)
    | (show retPost _ _ _ _ _; refine finG ?_))
  rfl
theorem natural_copyD (d : Nat) (h : (dL d).length < 10000000) : Ret Tryz.prog 138 [u32s (dL d), u32s []] (· = u32s (dL d)) := by
  unfold dL at *
  split
  · have := natural_AddN 0 0 (by rw [limbs_zero]; simp) (by rw [limbs_zero]; simp)
    rw [Nat.add_zero, limbs_zero] at this
    exact this
  · rename_i h1
    rw [if_neg h1] at h
    have := natural_AddN d 0 (by omega) (by rw [limbs_zero]; simp)
    rw [Nat.add_zero, limbs_zero] at this
    exact this
theorem rational_Neg (r : R3) (hr : RatOk r 1000000) : Ret Tryz.prog 140 [rD r] (· = rD (rq (-rv r))) := by
  have tr := rational_value r (hr.up (by decide))
  have or := okQ_rv hr (by decide)
  generalize rv r = x at *
  have hs := integer_NegZ x.num (by have := or.1; omega)
  have hd := natural_copyD x.den (by have := or.dl; omega)
  have e : rq (-x) = (decide (-x.num < 0), limbs (-x.num).natAbs, dL x.den) := rfl
  rw [e]
  refine ret_of_awp tab Tryz.func140 rfl rfl (Nat.le_of_ble_eq_true rfl) (fun w0 F0 => ?_)
  repeat' (first
    | (show awpL _ _ _ _ _; first | refine goL ?_ | refine cl 102 tt rfl rfl rfl (hr := tr) (k := ?_) | refine cl 153 tt rfl rfl rfl (hr := hs) (k := ?_) | refine cl 138 tt rfl rfl rfl (hr := hd) (k := ?_) | (refine gdLG ?_ ?_ <;> intro _ <;> try (exfalso; omega)))
    | (show awp _ _ _ _; first | refine goA ?_ | refine rg 2 5 ?_ | (refine cdG ?_ ?_ <;> intro _ <;> try (exfalso; omega)))
    | (show andThen _ _ _ _; refine goN ?_)
    | (show inBlock _ _ _ _; refine goB ?_)
    | (show awpR _ _ _ _ _ _ _; first | refine goR ?_ | refine clR 102 tt rfl rfl rfl (hr := tr) (k := ?_) | refine clR 153 tt rfl rfl rfl (hr := hs) (k := ?_) | refine clR 138 tt rfl rfl rfl (hr := hd) (k := ?_) | (refine gdRG ?_ ?_ <;> intro _ <;> try (exfalso; omega)))
    | (show retPost _ _ _ _ _; refine finG ?_))
  rfl
theorem dL_one : dL 1 = [] := rfl
theorem rational_Add (r t : R3) (hr : RatOk r 1000000) (ht : RatOk t 1000000) : Ret Tryz.prog 74 [rD r, rD t] (· = rD (rq (rv r + rv t))) := by
  have tr := rational_value r (hr.up (by decide))
  have tk := rational_value t (ht.up (by decide))
  have or := okQ_rv hr (by decide)
  have ot := okQ_rv ht (by decide)
  generalize rv r = x at *
  generalize rv t = y at *
  have dx := rational_den x (or.mono (by decide))
  have dy := rational_den y (ot.mono (by decide))
  have nx := dL_nil x.den_nz
  have ny := dL_nil y.den_nz
  obtain ⟨x1, x2⟩ := or
  obtain ⟨y1, y2⟩ := ot
  by_cases hh : x.den = 1 ∧ y.den = 1
  · have a0 := integer_AddZ x.num y.num (by omega) (by omega)
    have e : rq (x + y) = (decide (x.num + y.num < 0), limbs (x.num + y.num).natAbs, []) := by
      have hx : x = (x.num : Rat) := int_of_den hh.1
      have hy : y = (y.num : Rat) := int_of_den hh.2
      have hs : x + y = ((x.num + y.num : Int) : Rat) := by
        conv => lhs; rw [hx, hy]
        rw [Rat.intCast_add]
      rw [hs]; rfl
    have ex : rq x = (decide (x.num < 0), limbs x.num.natAbs, []) := by rw [rq, hh.1]; rfl
    have ey : rq y = (decide (y.num < 0), limbs y.num.natAbs, []) := by rw [rq, hh.2]; rfl
    rw [ex] at tr
    rw [ey] at tk
    rw [e]
    refine ret_of_awp tab Tryz.func74 rfl rfl (Nat.le_of_ble_eq_true rfl) (fun w0 F0 => ?_)
    repeat' (first
      | (show awpL _ _ _ _ _; first | refine goL ?_ | refine cl 102 tt rfl rfl rfl (hr := tr) (k := ?_) | refine cl 102 tt rfl rfl rfl (hr := tk) (k := ?_) | refine cl 113 tt rfl rfl rfl (hr := a0) (k := ?_) | (refine gdLG ?_ ?_ <;> intro _ <;> try (exfalso; omega)))
      | (show awp _ _ _ _; first | refine goA ?_ | refine rg 1 3 ?_ | refine rg 4 14 ?_ | (refine cdG ?_ ?_ <;> intro _ <;> try (exfalso; omega)))
      | (show andThen _ _ _ _; refine goN ?_)
      | (show inBlock _ _ _ _; refine goB ?_)
      | (show awpR _ _ _ _ _ _ _; first | refine goR ?_ | refine clR 102 tt rfl rfl rfl (hr := tr) (k := ?_) | refine clR 102 tt rfl rfl rfl (hr := tk) (k := ?_) | refine clR 113 tt rfl rfl rfl (hr := a0) (k := ?_) | (refine gdRG ?_ ?_ <;> intro _ <;> try (exfalso; omega)))
      | (show retPost _ _ _ _ _; first | refine finF true rfl rfl sc ?_ | refine finF false rfl rfl sc ?_ | refine finC false rfl rfl sc sc ?_ | refine finN rfl rfl sc ?_ | refine finL true rfl rfl sc rfl (LeR.cons rfl leL LeR.nil) ?_ | refine finA true rfl rfl sc ?_ | refine finA false rfl rfl sc ?_ | refine finE true rfl rfl sc ?_ | refine finE false rfl rfl sc ?_))
    exact leL
  · have m1 := rational_times x.num y.den (by omega) (by omega)
    have m2 := rational_times y.num x.den (by omega) (by omega)
    have m3 := natural_MulN x.den y.den (by omega) (by omega)
    have l1 := ln_mul x.num.natAbs y.den
    have l2 := ln_mul y.num.natAbs x.den
    have l3 := ln_mul x.den y.den
    simp only [ln] at l1 l2 l3
    have e1 : (x.num * (y.den : Int)).natAbs = x.num.natAbs * y.den := by rw [Int.natAbs_mul, Int.natAbs_natCast]
    have e2 : (y.num * (x.den : Int)).natAbs = y.num.natAbs * x.den := by rw [Int.natAbs_mul, Int.natAbs_natCast]
    have a1 := integer_AddZ (x.num * y.den) (y.num * x.den) (by rw [e1]; omega) (by rw [e2]; omega)
    have l4 := ln_mono (Int.natAbs_add_le (x.num * y.den) (y.num * x.den))
    have l5 := ln_add (x.num * (y.den : Int)).natAbs (y.num * (x.den : Int)).natAbs
    simp only [ln] at l4 l5
    rw [e1, e2] at l4 l5
    have o := rational_lowest (x.num * y.den + y.num * x.den) (x.den * y.den) (Nat.mul_ne_zero x.den_nz y.den_nz) (by omega) (by omega)
    rw [show Rat.divInt (x.num * y.den + y.num * x.den) ((x.den * y.den : Nat) : Int) = x + y by rw [Rat.add_def', ← Rat.divInt_ofNat]] at o
    have hl : (rq x).2.2.length ≠ 0 ∨ (rq y).2.2.length ≠ 0 := by show (dL x.den).length ≠ 0 ∨ (dL y.den).length ≠ 0; rw [ne_eq, nx, ne_eq, ny]; omega
    clear l1 l2 l3 l4 l5 e1 e2
    refine ret_of_awp tab Tryz.func74 rfl rfl (Nat.le_of_ble_eq_true rfl) (fun w0 F0 => ?_)
    repeat' (first
      | (show awpL _ _ _ _ _; first | refine goL ?_ | refine cl 102 tt rfl rfl rfl (hr := tr) (k := ?_) | refine cl 102 tt rfl rfl rfl (hr := tk) (k := ?_) | refine cl 105 tt rfl rfl rfl (hr := dx) (k := ?_) | refine cl 105 tt rfl rfl rfl (hr := dy) (k := ?_) | refine cl 104 tt rfl rfl rfl (hr := m1) (k := ?_) | refine cl 104 tt rfl rfl rfl (hr := m2) (k := ?_) | refine cl 109 tt rfl rfl rfl (hr := m3) (k := ?_) | refine cl 113 tt rfl rfl rfl (hr := a1) (k := ?_) | refine cl 108 tt rfl rfl rfl (hr := o) (k := ?_) | (refine gdLG ?_ ?_ <;> intro _ <;> try (exfalso; omega)))
      | (show awp _ _ _ _; first | refine goA ?_ | refine rg 1 3 ?_ | refine rg 4 14 ?_ | (refine cdG ?_ ?_ <;> intro _ <;> try (exfalso; omega)))
      | (show andThen _ _ _ _; refine goN ?_)
      | (show inBlock _ _ _ _; refine goB ?_)
      | (show awpR _ _ _ _ _ _ _; first | refine goR ?_ | refine clR 102 tt rfl rfl rfl (hr := tr) (k := ?_) | refine clR 102 tt rfl rfl rfl (hr := tk) (k := ?_) | refine clR 105 tt rfl rfl rfl (hr := dx) (k := ?_) | refine clR 105 tt rfl rfl rfl (hr := dy) (k := ?_) | refine clR 104 tt rfl rfl rfl (hr := m1) (k := ?_) | refine clR 104 tt rfl rfl rfl (hr := m2) (k := ?_) | refine clR 109 tt rfl rfl rfl (hr := m3) (k := ?_) | refine clR 113 tt rfl rfl rfl (hr := a1) (k := ?_) | refine clR 108 tt rfl rfl rfl (hr := o) (k := ?_) | (refine gdRG ?_ ?_ <;> intro _ <;> try (exfalso; omega)))
      | (show retPost _ _ _ _ _; refine finG ?_))
    all_goals rfl
theorem rational_Mul (r t : R3) (hr : RatOk r 1000000) (ht : RatOk t 1000000) : Ret Tryz.prog 71 [rD r, rD t] (· = rD (rq (rv r * rv t))) := by
  have tr := rational_value r (hr.up (by decide))
  have tk := rational_value t (ht.up (by decide))
  have or := okQ_rv hr (by decide)
  have ot := okQ_rv ht (by decide)
  generalize rv r = x at *
  generalize rv t = y at *
  have dx := rational_den x (or.mono (by decide))
  have dy := rational_den y (ot.mono (by decide))
  have nx := dL_nil x.den_nz
  have ny := dL_nil y.den_nz
  obtain ⟨x1, x2⟩ := or
  obtain ⟨y1, y2⟩ := ot
  have a0 := integer_MulZ x.num y.num (by omega) (by omega)
  by_cases hh : x.den = 1 ∧ y.den = 1
  · have e : rq (x * y) = (decide (x.num * y.num < 0), limbs (x.num * y.num).natAbs, []) := by
      have hx : x = (x.num : Rat) := int_of_den hh.1
      have hy : y = (y.num : Rat) := int_of_den hh.2
      have hs : x * y = ((x.num * y.num : Int) : Rat) := by
        conv => lhs; rw [hx, hy]
        rw [Rat.intCast_mul]
      rw [hs]; rfl
    have ex : rq x = (decide (x.num < 0), limbs x.num.natAbs, []) := by rw [rq, hh.1]; rfl
    have ey : rq y = (decide (y.num < 0), limbs y.num.natAbs, []) := by rw [rq, hh.2]; rfl
    rw [ex] at tr
    rw [ey] at tk
    rw [e]
    refine ret_of_awp tab Tryz.func71 rfl rfl (Nat.le_of_ble_eq_true rfl) (fun w0 F0 => ?_)
    repeat' (first
      | (show awpL _ _ _ _ _; first | refine goL ?_ | refine cl 102 tt rfl rfl rfl (hr := tr) (k := ?_) | refine cl 102 tt rfl rfl rfl (hr := tk) (k := ?_) | refine cl 107 tt rfl rfl rfl (hr := a0) (k := ?_) | (refine gdLG ?_ ?_ <;> intro _ <;> try (exfalso; omega)))
      | (show awp _ _ _ _; first | refine goA ?_ | refine rg 1 3 ?_ | refine rg 4 8 ?_ | (refine cdG ?_ ?_ <;> intro _ <;> try (exfalso; omega)))
      | (show andThen _ _ _ _; refine goN ?_)
      | (show inBlock _ _ _ _; refine goB ?_)
      | (show awpR _ _ _ _ _ _ _; first | refine goR ?_ | refine clR 102 tt rfl rfl rfl (hr := tr) (k := ?_) | refine clR 102 tt rfl rfl rfl (hr := tk) (k := ?_) | refine clR 107 tt rfl rfl rfl (hr := a0) (k := ?_) | (refine gdRG ?_ ?_ <;> intro _ <;> try (exfalso; omega)))
      | (show retPost _ _ _ _ _; first | refine finF true rfl rfl sc ?_ | refine finF false rfl rfl sc ?_ | refine finC false rfl rfl sc sc ?_ | refine finN rfl rfl sc ?_ | refine finL true rfl rfl sc rfl (LeR.cons rfl leL LeR.nil) ?_ | refine finA true rfl rfl sc ?_ | refine finA false rfl rfl sc ?_ | refine finE true rfl rfl sc ?_ | refine finE false rfl rfl sc ?_))
    exact leL
  · have m3 := natural_MulN x.den y.den (by omega) (by omega)
    have l1 := ln_mul x.num.natAbs y.num.natAbs
    have l3 := ln_mul x.den y.den
    simp only [ln] at l1 l3
    have e1 : (x.num * y.num).natAbs = x.num.natAbs * y.num.natAbs := Int.natAbs_mul _ _
    have o := rational_lowest (x.num * y.num) (x.den * y.den) (Nat.mul_ne_zero x.den_nz y.den_nz) (by rw [e1]; omega) (by omega)
    rw [show Rat.divInt (x.num * y.num) ((x.den * y.den : Nat) : Int) = x * y by rw [Rat.mul_def', ← Rat.divInt_ofNat]] at o
    have hl : (rq x).2.2.length ≠ 0 ∨ (rq y).2.2.length ≠ 0 := by show (dL x.den).length ≠ 0 ∨ (dL y.den).length ≠ 0; rw [ne_eq, nx, ne_eq, ny]; omega
    clear l1 l3 e1
    refine ret_of_awp tab Tryz.func71 rfl rfl (Nat.le_of_ble_eq_true rfl) (fun w0 F0 => ?_)
    repeat' (first
      | (show awpL _ _ _ _ _; first | refine goL ?_ | refine cl 102 tt rfl rfl rfl (hr := tr) (k := ?_) | refine cl 102 tt rfl rfl rfl (hr := tk) (k := ?_) | refine cl 105 tt rfl rfl rfl (hr := dx) (k := ?_) | refine cl 105 tt rfl rfl rfl (hr := dy) (k := ?_) | refine cl 109 tt rfl rfl rfl (hr := m3) (k := ?_) | refine cl 107 tt rfl rfl rfl (hr := a0) (k := ?_) | refine cl 108 tt rfl rfl rfl (hr := o) (k := ?_) | (refine gdLG ?_ ?_ <;> intro _ <;> try (exfalso; omega)))
      | (show awp _ _ _ _; first | refine goA ?_ | refine rg 1 3 ?_ | refine rg 4 8 ?_ | (refine cdG ?_ ?_ <;> intro _ <;> try (exfalso; omega)))
      | (show andThen _ _ _ _; refine goN ?_)
      | (show inBlock _ _ _ _; refine goB ?_)
      | (show awpR _ _ _ _ _ _ _; first | refine goR ?_ | refine clR 102 tt rfl rfl rfl (hr := tr) (k := ?_) | refine clR 102 tt rfl rfl rfl (hr := tk) (k := ?_) | refine clR 105 tt rfl rfl rfl (hr := dx) (k := ?_) | refine clR 105 tt rfl rfl rfl (hr := dy) (k := ?_) | refine clR 109 tt rfl rfl rfl (hr := m3) (k := ?_) | refine clR 107 tt rfl rfl rfl (hr := a0) (k := ?_) | refine clR 108 tt rfl rfl rfl (hr := o) (k := ?_) | (refine gdRG ?_ ?_ <;> intro _ <;> try (exfalso; omega)))
      | (show retPost _ _ _ _ _; refine finG ?_))
    all_goals rfl
theorem rational_Sub (r t : R3) (hr : RatOk r 1000000) (ht : RatOk t 1000000) : Ret Tryz.prog 115 [rD r, rD t] (· = rD (rq (rv r - rv t))) := by
  have hn := rational_Neg t ht
  have or := okQ_rv ht (by decide)
  have on : okQ 1000000 (-rv t) := ⟨by rw [Rat.neg_num, Int.natAbs_neg]; exact or.1, by rw [Rat.neg_den]; exact or.2⟩
  have ha := rational_Add r (rq (-rv t)) hr (ok_rq on)
  rw [rv_rq, ← Rat.sub_eq_add_neg] at ha
  refine ret_of_awp tab Tryz.func115 rfl rfl (Nat.le_of_ble_eq_true rfl) (fun w0 F0 => ?_)
  repeat' (first
    | (show awpL _ _ _ _ _; first | refine goL ?_ | refine cl 140 tt rfl rfl rfl (hr := hn) (k := ?_) | refine cl 74 tt rfl rfl rfl (hr := ha) (k := ?_) | (refine gdLG ?_ ?_ <;> intro _ <;> try (exfalso; omega)))
    | (show awp _ _ _ _; first | refine goA ?_ | refine rg 1 3 ?_ | (refine cdG ?_ ?_ <;> intro _ <;> try (exfalso; omega)))
    | (show andThen _ _ _ _; refine goN ?_)
    | (show inBlock _ _ _ _; refine goB ?_)
    | (show awpR _ _ _ _ _ _ _; first | refine goR ?_ | refine clR 140 tt rfl rfl rfl (hr := hn) (k := ?_) | refine clR 74 tt rfl rfl rfl (hr := ha) (k := ?_) | (refine gdRG ?_ ?_ <;> intro _ <;> try (exfalso; omega)))
    | (show retPost _ _ _ _ _; refine finG ?_))
  rfl
theorem rational_Make (a b : Int) (ha : (limbs a.natAbs).length < 10000000) (hb : (limbs b.natAbs).length < 10000000) : Ret Tryz.prog 127 [zD a, zD b] (· = if b = 0 then .tup [rD r0, .int .i64 5] else .tup [rD (rq (Rat.divInt a b)), .int .i64 0]) := by
  have hs := integer_SignZ b (by omega)
  by_cases h0 : b = 0
  · rw [if_pos h0]
    rw [h0] at hs ⊢
    have : (0 : Int).sign = 0 := rfl
    rw [this] at hs
    refine ret_of_awp tab Tryz.func127 rfl rfl (Nat.le_of_ble_eq_true rfl) (fun w0 F0 => ?_)
    repeat' (first
      | (show awpL _ _ _ _ _; first | refine goL ?_ | refine cl 101 tt rfl rfl rfl (hr := hs) (k := ?_) | (refine gdLG ?_ ?_ <;> intro _ <;> try (exfalso; omega)))
      | (show awp _ _ _ _; first | refine goA ?_ | refine rg 5 5 ?_ | (refine cdG ?_ ?_ <;> intro _ <;> try (exfalso; omega)))
      | (show andThen _ _ _ _; refine goN ?_)
      | (show inBlock _ _ _ _; refine goB ?_)
      | (show awpR _ _ _ _ _ _ _; first | refine goR ?_ | refine clR 101 tt rfl rfl rfl (hr := hs) (k := ?_) | (refine gdRG ?_ ?_ <;> intro _ <;> try (exfalso; omega)))
      | (show retPost _ _ _ _ _; refine finTG ?_))
    exact leT
  · rw [if_neg h0]
    have hab := divInt_abs a b
    by_cases hn : b < 0
    · rw [if_pos hn] at hab
      rw [Int.sign_eq_neg_one_of_neg hn] at hs
      have hne := integer_NegZ a (by omega)
      have had := integer_AddZ (-a) 0 (by rw [Int.natAbs_neg]; omega) (by show (limbs 0).length < _; rw [limbs_zero]; simp)
      rw [zD_zero, Int.add_zero] at had
      have hlo := rational_lowest (-a) b.natAbs (by omega) (by rw [Int.natAbs_neg]; exact ha) hb
      rw [hab] at hlo
      refine ret_of_awp tab Tryz.func127 rfl rfl (Nat.le_of_ble_eq_true rfl) (fun w0 F0 => ?_)
      repeat' (first
        | (show awpL _ _ _ _ _; first | refine goL ?_ | refine cl 101 tt rfl rfl rfl (hr := hs) (k := ?_) | refine cl 153 tt rfl rfl rfl (hr := hne) (k := ?_) | refine cl 113 tt rfl rfl rfl (hr := had) (k := ?_) | refine cl 108 tt rfl rfl rfl (hr := hlo) (k := ?_) | (refine gdLG ?_ ?_ <;> intro _ <;> try (exfalso; omega)))
        | (show awp _ _ _ _; first | refine goA ?_ | refine rg 5 5 ?_ | (refine cdG ?_ ?_ <;> intro _ <;> try (exfalso; omega)))
        | (show andThen _ _ _ _; refine goN ?_)
        | (show inBlock _ _ _ _; refine goB ?_)
        | (show awpR _ _ _ _ _ _ _; first | refine goR ?_ | refine clR 101 tt rfl rfl rfl (hr := hs) (k := ?_) | refine clR 153 tt rfl rfl rfl (hr := hne) (k := ?_) | refine clR 113 tt rfl rfl rfl (hr := had) (k := ?_) | refine clR 108 tt rfl rfl rfl (hr := hlo) (k := ?_) | (refine gdRG ?_ ?_ <;> intro _ <;> try (exfalso; omega)))
        | (show retPost _ _ _ _ _; refine finTG ?_))
      exact leT
    · rw [if_neg hn] at hab
      rw [Int.sign_eq_one_of_pos (by omega)] at hs
      have had := integer_AddZ a 0 (by omega) (by show (limbs 0).length < _; rw [limbs_zero]; simp)
      rw [zD_zero, Int.add_zero] at had
      have hlo := rational_lowest a b.natAbs (by omega) ha hb
      rw [hab] at hlo
      refine ret_of_awp tab Tryz.func127 rfl rfl (Nat.le_of_ble_eq_true rfl) (fun w0 F0 => ?_)
      repeat' (first
        | (show awpL _ _ _ _ _; first | refine goL ?_ | refine cl 101 tt rfl rfl rfl (hr := hs) (k := ?_) | refine cl 113 tt rfl rfl rfl (hr := had) (k := ?_) | refine cl 108 tt rfl rfl rfl (hr := hlo) (k := ?_) | (refine gdLG ?_ ?_ <;> intro _ <;> try (exfalso; omega)))
        | (show awp _ _ _ _; first | refine goA ?_ | refine rg 5 5 ?_ | (refine cdG ?_ ?_ <;> intro _ <;> try (exfalso; omega)))
        | (show andThen _ _ _ _; refine goN ?_)
        | (show inBlock _ _ _ _; refine goB ?_)
        | (show awpR _ _ _ _ _ _ _; first | refine goR ?_ | refine clR 101 tt rfl rfl rfl (hr := hs) (k := ?_) | refine clR 113 tt rfl rfl rfl (hr := had) (k := ?_) | refine clR 108 tt rfl rfl rfl (hr := hlo) (k := ?_) | (refine gdRG ?_ ?_ <;> intro _ <;> try (exfalso; omega)))
        | (show retPost _ _ _ _ _; refine finTG ?_))
      exact leT
theorem rational_Div (r t : R3) (hr : RatOk r 1000000) (ht : RatOk t 1000000) : Ret Tryz.prog 100 [rD r, rD t] (· = if rv t = 0 then .tup [rD r0, .int .i64 5] else .tup [rD (rq (rv r / rv t)), .int .i64 0]) := by
  have tr := rational_value r (hr.up (by decide))
  have tk := rational_value t (ht.up (by decide))
  have or := okQ_rv hr (by decide)
  have ot := okQ_rv ht (by decide)
  generalize rv r = x at *
  generalize rv t = y at *
  have dx := rational_den x (or.mono (by decide))
  have dy := rational_den y (ot.mono (by decide))
  obtain ⟨x1, x2⟩ := or
  obtain ⟨y1, y2⟩ := ot
  have m1 := rational_times x.num y.den (by omega) (by omega)
  have m2 := rational_times y.num x.den (by omega) (by omega)
  have l1 := ln_mul x.num.natAbs y.den
  have l2 := ln_mul y.num.natAbs x.den
  simp only [ln] at l1 l2
  have e1 : (x.num * (y.den : Int)).natAbs = x.num.natAbs * y.den := by rw [Int.natAbs_mul, Int.natAbs_natCast]
  have e2 : (y.num * (x.den : Int)).natAbs = y.num.natAbs * x.den := by rw [Int.natAbs_mul, Int.natAbs_natCast]
  have hm := rational_Make (x.num * y.den) (y.num * x.den) (by rw [e1]; omega) (by rw [e2]; omega)
  have hd : (x.den : Int) ≠ 0 := by have := x.den_nz; omega
  have h0 : y.num * x.den = 0 ↔ y = 0 := by
    rw [Int.mul_eq_zero, Rat.num_eq_zero]; exact ⟨fun h => h.elim id fun h => absurd h hd, .inl⟩
  by_cases hy : y = 0
  · rw [if_pos hy]
    rw [if_pos (h0.2 hy)] at hm
    refine ret_of_awp tab Tryz.func100 rfl rfl (Nat.le_of_ble_eq_true rfl) (fun w0 F0 => ?_)
    repeat' (first
      | (show awpL _ _ _ _ _; first | refine goL ?_ | refine cl 102 tt rfl rfl rfl (hr := tr) (k := ?_) | refine cl 102 tt rfl rfl rfl (hr := tk) (k := ?_) | refine cl 105 tt rfl rfl rfl (hr := dx) (k := ?_) | refine cl 105 tt rfl rfl rfl (hr := dy) (k := ?_) | refine cl 104 tt rfl rfl rfl (hr := m1) (k := ?_) | refine cl 104 tt rfl rfl rfl (hr := m2) (k := ?_) | refine cl 127 tt rfl rfl rfl (hr := hm) (k := ?_) | (refine gdLG ?_ ?_ <;> intro _ <;> try (exfalso; omega)))
      | (show awp _ _ _ _; first | refine goA ?_ | refine rg 1 3 ?_ | refine rg 2 13 ?_ | (refine cdG ?_ ?_ <;> intro _ <;> try (exfalso; omega)))
      | (show andThen _ _ _ _; refine goN ?_)
      | (show inBlock _ _ _ _; refine goB ?_)
      | (show awpR _ _ _ _ _ _ _; first | refine goR ?_ | refine clR 102 tt rfl rfl rfl (hr := tr) (k := ?_) | refine clR 102 tt rfl rfl rfl (hr := tk) (k := ?_) | refine clR 105 tt rfl rfl rfl (hr := dx) (k := ?_) | refine clR 105 tt rfl rfl rfl (hr := dy) (k := ?_) | refine clR 104 tt rfl rfl rfl (hr := m1) (k := ?_) | refine clR 104 tt rfl rfl rfl (hr := m2) (k := ?_) | refine clR 127 tt rfl rfl rfl (hr := hm) (k := ?_) | (refine gdRG ?_ ?_ <;> intro _ <;> try (exfalso; omega)))
      | (show retPost _ _ _ _ _; refine finTG ?_))
    exact leT
  · rw [if_neg hy]
    rw [if_neg (mt h0.1 hy)] at hm
    rw [divInt_div] at hm
    refine ret_of_awp tab Tryz.func100 rfl rfl (Nat.le_of_ble_eq_true rfl) (fun w0 F0 => ?_)
    repeat' (first
      | (show awpL _ _ _ _ _; first | refine goL ?_ | refine cl 102 tt rfl rfl rfl (hr := tr) (k := ?_) | refine cl 102 tt rfl rfl rfl (hr := tk) (k := ?_) | refine cl 105 tt rfl rfl rfl (hr := dx) (k := ?_) | refine cl 105 tt rfl rfl rfl (hr := dy) (k := ?_) | refine cl 104 tt rfl rfl rfl (hr := m1) (k := ?_) | refine cl 104 tt rfl rfl rfl (hr := m2) (k := ?_) | refine cl 127 tt rfl rfl rfl (hr := hm) (k := ?_) | (refine gdLG ?_ ?_ <;> intro _ <;> try (exfalso; omega)))
      | (show awp _ _ _ _; first | refine goA ?_ | refine rg 1 3 ?_ | refine rg 2 13 ?_ | (refine cdG ?_ ?_ <;> intro _ <;> try (exfalso; omega)))
      | (show andThen _ _ _ _; refine goN ?_)
      | (show inBlock _ _ _ _; refine goB ?_)
      | (show awpR _ _ _ _ _ _ _; first | refine goR ?_ | refine clR 102 tt rfl rfl rfl (hr := tr) (k := ?_) | refine clR 102 tt rfl rfl rfl (hr := tk) (k := ?_) | refine clR 105 tt rfl rfl rfl (hr := dx) (k := ?_) | refine clR 105 tt rfl rfl rfl (hr := dy) (k := ?_) | refine clR 104 tt rfl rfl rfl (hr := m1) (k := ?_) | refine clR 104 tt rfl rfl rfl (hr := m2) (k := ?_) | refine clR 127 tt rfl rfl rfl (hr := hm) (k := ?_) | (refine gdRG ?_ ?_ <;> intro _ <;> try (exfalso; omega)))
      | (show retPost _ _ _ _ _; refine finTG ?_))
    exact leT
end Go.Proofs.YtfnckkfbnnbmkaaGreat

/-
  Rational numbers: sizes of results, order, whole parts. Conditions: as each says.
-/
set_option linter.unusedVariables false
set_option linter.unusedSimpArgs false
namespace Go.Vw
theorem divInt_le (a b : Int) (hb : b ≠ 0) : (Rat.divInt a b).num.natAbs ≤ a.natAbs ∧ (Rat.divInt a b).den ≤ b.natAbs := by
  rw [Rat.num_divInt, Rat.den_divInt, if_neg hb]
  refine ⟨?_, Nat.div_le_self _ _⟩
  have hg : 0 < Int.gcd b a := Int.gcd_pos_of_ne_zero_left _ hb
  have hd : ((Int.gcd b a : Nat) : Int) ∣ b.sign * a := Int.dvd_trans (Int.gcd_dvd_right b a) (Int.dvd_mul_left _ _)
  rw [Int.natAbs_ediv_of_dvd hd, Int.natAbs_mul]
  have h1 : b.sign.natAbs = 1 := by rw [Int.natAbs_sign, if_neg hb]
  rw [h1, Nat.one_mul]
  exact Nat.div_le_self _ _
theorem okQ_divInt {a b : Int} {k : Nat} (hb : b ≠ 0) (ha : (limbs a.natAbs).length < k) (hb2 : (limbs b.natAbs).length < k) : okQ k (Rat.divInt a b) :=
  ⟨Nat.lt_of_le_of_lt (limbs_len_mono (divInt_le a b hb).1) ha, Nat.lt_of_le_of_lt (limbs_len_mono (divInt_le a b hb).2) hb2⟩
theorem den_ne (x : Rat) : (x.den : Int) ≠ 0 := by have := x.den_nz; omega
theorem add_divInt (x y : Rat) : x + y = Rat.divInt (x.num * y.den + y.num * x.den) ((x.den * y.den : Nat) : Int) := by rw [Rat.add_def', ← Rat.divInt_ofNat]
theorem mul_divInt (x y : Rat) : x * y = Rat.divInt (x.num * y.num) ((x.den * y.den : Nat) : Int) := by rw [Rat.mul_def', ← Rat.divInt_ofNat]
theorem okQ.add {x y : Rat} {k l : Nat} (hx : okQ k x) (hy : okQ l y) : okQ (k + l) (x + y) := by
  rw [add_divInt]
  have l1 := ln_mul x.num.natAbs y.den
  have l2 := ln_mul y.num.natAbs x.den
  have l3 := ln_mul x.den y.den
  have e1 : (x.num * (y.den : Int)).natAbs = x.num.natAbs * y.den := by rw [Int.natAbs_mul, Int.natAbs_natCast]
  have e2 : (y.num * (x.den : Int)).natAbs = y.num.natAbs * x.den := by rw [Int.natAbs_mul, Int.natAbs_natCast]
  have l4 := ln_mono (Int.natAbs_add_le (x.num * y.den) (y.num * x.den))
  obtain ⟨x1, x2⟩ := hx
  obtain ⟨y1, y2⟩ := hy
  simp only [ln] at l1 l2 l3 l4
  have l5 := ln_add1 (m := (x.num * (y.den : Int)).natAbs) (n := (y.num * (x.den : Int)).natAbs) (k := k + l - 2) (by simp only [ln]; rw [e1]; omega) (by simp only [ln]; rw [e2]; omega)
  simp only [ln] at l5
  refine okQ_divInt (by have := Nat.mul_ne_zero x.den_nz y.den_nz; omega) (by omega) (by rw [Int.natAbs_natCast]; omega)
theorem okQ.mul {x y : Rat} {k l : Nat} (hx : okQ k x) (hy : okQ l y) : okQ (k + l) (x * y) := by
  rw [mul_divInt]
  have l1 := ln_mul x.num.natAbs y.num.natAbs
  have l3 := ln_mul x.den y.den
  have e1 : (x.num * y.num).natAbs = x.num.natAbs * y.num.natAbs := Int.natAbs_mul _ _
  obtain ⟨x1, x2⟩ := hx
  obtain ⟨y1, y2⟩ := hy
  simp only [ln] at l1 l3
  refine okQ_divInt (by have := Nat.mul_ne_zero x.den_nz y.den_nz; omega) (by rw [e1]; omega) (by rw [Int.natAbs_natCast]; omega)
theorem okQ.neg {x : Rat} {k : Nat} (hx : okQ k x) : okQ k (-x) := ⟨by rw [Rat.neg_num, Int.natAbs_neg]; exact hx.1, by rw [Rat.neg_den]; exact hx.2⟩
theorem okQ.sub {x y : Rat} {k l : Nat} (hx : okQ k x) (hy : okQ l y) : okQ (k + l) (x - y) := by rw [Rat.sub_eq_add_neg]; exact hx.add hy.neg
theorem okQ.div {x y : Rat} {k l : Nat} (hx : okQ k x) (hy : okQ l y) (h0 : y ≠ 0) : okQ (k + l) (x / y) := by
  rw [← divInt_div]
  have l1 := ln_mul x.num.natAbs y.den
  have l2 := ln_mul y.num.natAbs x.den
  have e1 : (x.num * (y.den : Int)).natAbs = x.num.natAbs * y.den := by rw [Int.natAbs_mul, Int.natAbs_natCast]
  have e2 : (y.num * (x.den : Int)).natAbs = y.num.natAbs * x.den := by rw [Int.natAbs_mul, Int.natAbs_natCast]
  obtain ⟨x1, x2⟩ := hx
  obtain ⟨y1, y2⟩ := hy
  simp only [ln] at l1 l2
  refine okQ_divInt (Int.mul_ne_zero (mt Rat.num_eq_zero.1 h0) (den_ne x)) (by rw [e1]; omega) (by rw [e2]; omega)
theorem num_lt0 {q : Rat} : q.num < 0 ↔ q < 0 := by
  rw [← Rat.not_le, ← Rat.num_nonneg]; omega
theorem num_gt0 {q : Rat} : 0 < q.num ↔ 0 < q := by
  have h1 := Rat.num_nonneg (q := q)
  have h2 := Rat.num_eq_zero (q := q)
  constructor
  · intro h
    have := h1.1 (by omega)
    have : q ≠ 0 := fun e => by have := h2.2 e; omega
    grind
  · intro h
    have := h1.2 (by grind)
    have : q.num ≠ 0 := fun e => by have := h2.1 e; grind
    omega
/-- The sign of the difference. -/
theorem sign_sub (x y : Rat) : (x - y).num.sign = cmpQ x y := by
  unfold cmpQ
  by_cases h : x < y
  · rw [if_pos h]
    refine Int.sign_eq_neg_one_of_neg ?_
    have : x - y < 0 := by grind
    exact num_lt0.2 this
  · rw [if_neg h]
    by_cases h2 : y < x
    · rw [if_pos h2]
      refine Int.sign_eq_one_of_pos ?_
      have : 0 < x - y := by grind
      exact num_gt0.2 this
    · rw [if_neg h2]
      have : x - y = 0 := by grind
      rw [this]; rfl
theorem cmpQ_neg (x y : Rat) : cmpQ x y < 0 ↔ x < y := by
  unfold cmpQ
  constructor
  · intro h; split at h
    · assumption
    · split at h <;> omega
  · intro h; rw [if_pos h]; decide
theorem cmpQ_pos (x y : Rat) : 0 < cmpQ x y ↔ y < x := by
  unfold cmpQ
  constructor
  · intro h; split at h
    · omega
    · split at h
      · assumption
      · omega
  · intro h; rw [if_neg (by grind), if_pos h]; decide
theorem cmpQ_zero (x y : Rat) : cmpQ x y = 0 ↔ x = y := by
  unfold cmpQ
  constructor
  · intro h; split at h
    · omega
    · split at h
      · omega
      · grind
  · intro h; subst h; rw [if_neg (by grind), if_neg (by grind)]
theorem cmpQ_range (x y : Rat) : -1 ≤ cmpQ x y ∧ cmpQ x y ≤ 1 := by unfold cmpQ; split <;> (try split) <;> omega
end Go.Vw

set_option linter.unusedVariables false
set_option linter.unusedSimpArgs false
namespace Go.Proofs.YtfnckkfbnnbmkaaGreat
open Go.Vw
attribute [local irreducible] awp awpL awpR

theorem rational_Floor (r : R3) (hr : RatOk r 1000000) : Ret Tryz.prog 73 [rD r] (· = zD (rv r).floor) := by
  have tr := rational_value r (hr.up (by decide))
  have or := okQ_rv hr (by decide)
  generalize rv r = x at *
  have dx := rational_den x (or.mono (by decide))
  obtain ⟨x1, x2⟩ := or
  have hd := integer_DivZ x.num x.den (by omega) (by rw [Int.natAbs_natCast]; omega) (den_ne x)
  rw [← Rat.floor_def, zD_nat] at hd
  refine ret_of_awp tab Tryz.func73 rfl rfl (Nat.le_of_ble_eq_true rfl) (fun w0 F0 => ?_)
  repeat' (first
    | (show awpL _ _ _ _ _; first | refine goL ?_ | refine cl 102 tt rfl rfl rfl (hr := tr) (k := ?_) | refine cl 105 tt rfl rfl rfl (hr := dx) (k := ?_) | refine cl 112 tt rfl rfl rfl (hr := hd) (k := ?_) | (refine gdLG ?_ ?_ <;> intro _ <;> try (exfalso; omega)))
    | (show awp _ _ _ _; first | refine goA ?_ | refine rgK 2 14 [3, 4] ?_ | (refine cdG ?_ ?_ <;> intro _ <;> try (exfalso; omega)))
    | (show andThen _ _ _ _; refine goN ?_)
    | (show inBlock _ _ _ _; refine goB ?_)
    | (show awpR _ _ _ _ _ _ _; first | refine goR ?_ | refine clR 102 tt rfl rfl rfl (hr := tr) (k := ?_) | refine clR 105 tt rfl rfl rfl (hr := dx) (k := ?_) | refine clR 112 tt rfl rfl rfl (hr := hd) (k := ?_) | (refine gdRG ?_ ?_ <;> intro _ <;> try (exfalso; omega)))
    | (show retPost _ _ _ _ _; refine finG ?_))
  rfl
theorem ref03_Floor (r : R3) (hr : RatOk r 1000000) : Ret Tryz.prog 85 [rD r] (· = zD (rv r).floor) := by
  have tr := ref03_Take r (hr.up (by decide))
  have or := okQ_rv hr (by decide)
  generalize rv r = x at *
  have dx := ref03_Den x (or.mono (by decide))
  obtain ⟨x1, x2⟩ := or
  have hd := ref02_DivZ x.num x.den (by omega) (by rw [Int.natAbs_natCast]; omega) (den_ne x)
  rw [← Rat.floor_def] at hd
  refine ret_of_awp tab Tryz.func85 rfl rfl (Nat.le_of_ble_eq_true rfl) (fun w0 F0 => ?_)
  repeat' (first
    | (show awpL _ _ _ _ _; first | refine goL ?_ | refine cl 55 tt rfl rfl rfl (hr := tr) (k := ?_) | refine cl 59 tt rfl rfl rfl (hr := dx) (k := ?_) | refine cl 93 tt rfl rfl rfl (hr := hd) (k := ?_) | (refine gdLG ?_ ?_ <;> intro _ <;> try (exfalso; omega)))
    | (show awp _ _ _ _; first | refine goA ?_ | refine rgK 2 13 [3, 4] ?_ | (refine cdG ?_ ?_ <;> intro _ <;> try (exfalso; omega)))
    | (show andThen _ _ _ _; refine goN ?_)
    | (show inBlock _ _ _ _; refine goB ?_)
    | (show awpR _ _ _ _ _ _ _; first | refine goR ?_ | refine clR 55 tt rfl rfl rfl (hr := tr) (k := ?_) | refine clR 59 tt rfl rfl rfl (hr := dx) (k := ?_) | refine clR 93 tt rfl rfl rfl (hr := hd) (k := ?_) | (refine gdRG ?_ ?_ <;> intro _ <;> try (exfalso; omega)))
    | (show retPost _ _ _ _ _; refine finG ?_))
  rfl
theorem ref03_Sub (r t : R3) (hr : RatOk r 1000000) (ht : RatOk t 1000000) : Ret Tryz.prog 18 [rD r, rD t] (· = rD (rq (rv r - rv t))) := by
  have hn := ref03_Neg t ht
  have or := okQ_rv ht (by decide)
  have ha := ref03_Add r (rq (-rv t)) hr (ok_rq or.neg)
  rw [rv_rq, ← Rat.sub_eq_add_neg] at ha
  refine ret_of_awp tab Tryz.func18 rfl rfl (Nat.le_of_ble_eq_true rfl) (fun w0 F0 => ?_)
  repeat' (first
    | (show awpL _ _ _ _ _; first | refine goL ?_ | refine cl 60 tt rfl rfl rfl (hr := hn) (k := ?_) | refine cl 16 tt rfl rfl rfl (hr := ha) (k := ?_) | (refine gdLG ?_ ?_ <;> intro _ <;> try (exfalso; omega)))
    | (show awp _ _ _ _; first | refine goA ?_ | refine rg 1 3 ?_ | (refine cdG ?_ ?_ <;> intro _ <;> try (exfalso; omega)))
    | (show andThen _ _ _ _; refine goN ?_)
    | (show inBlock _ _ _ _; refine goB ?_)
    | (show awpR _ _ _ _ _ _ _; first | refine goR ?_ | refine clR 60 tt rfl rfl rfl (hr := hn) (k := ?_) | refine clR 16 tt rfl rfl rfl (hr := ha) (k := ?_) | (refine gdRG ?_ ?_ <;> intro _ <;> try (exfalso; omega)))
    | (show retPost _ _ _ _ _; refine finG ?_))
  rfl
theorem ref03_Compare (r t : R3) (hr : RatOk r 100000) (ht : RatOk t 100000) : Ret Tryz.prog 64 [rD r, rD t] (· = .int .i64 (cmpQ (rv r) (rv t))) := by
  have hs := ref03_Sub r t (hr.up (by decide)) (ht.up (by decide))
  have or := okQ_rv hr (by decide)
  have ot := okQ_rv ht (by decide)
  have hg := ref03_SignQ (rv r - rv t) ((or.sub ot).mono (by decide))
  rw [sign_sub] at hg
  refine ret_of_awp tab Tryz.func64 rfl rfl (Nat.le_of_ble_eq_true rfl) (fun w0 F0 => ?_)
  repeat' (first
    | (show awpL _ _ _ _ _; first | refine goL ?_ | refine cl 18 tt rfl rfl rfl (hr := hs) (k := ?_) | refine cl 52 tt rfl rfl rfl (hr := hg) (k := ?_) | (refine gdLG ?_ ?_ <;> intro _ <;> try (exfalso; omega)))
    | (show awp _ _ _ _; first | refine goA ?_ | (refine cdG ?_ ?_ <;> intro _ <;> try (exfalso; omega)))
    | (show andThen _ _ _ _; refine goN ?_)
    | (show inBlock _ _ _ _; refine goB ?_)
    | (show retPost _ _ _ _ _; refine finG ?_))
  rfl
theorem ref03_Less (r t : R3) (hr : RatOk r 100000) (ht : RatOk t 100000) : Ret Tryz.prog 22 [rD r, rD t] (· = .bool (decide (rv r < rv t))) := by
  have hs := ref03_Compare r t hr ht
  have hc := cmpQ_neg (rv r) (rv t)
  obtain ⟨c, hcc⟩ : ∃ c, cmpQ (rv r) (rv t) = c := ⟨_, rfl⟩
  rw [hcc] at hs hc
  rw [show decide (rv r < rv t) = decide (c < 0) from decide_eq_decide.2 hc.symm]
  refine ret_of_awp tab Tryz.func22 rfl rfl (Nat.le_of_ble_eq_true rfl) (fun w0 F0 => ?_)
  repeat' (first
    | (show awpL _ _ _ _ _; first | refine goL ?_ | refine cl 64 tt rfl rfl rfl (hr := hs) (k := ?_) | (refine gdLG ?_ ?_ <;> intro _ <;> try (exfalso; omega)))
    | (show awp _ _ _ _; first | refine goA ?_ | (refine cdG ?_ ?_ <;> intro _ <;> try (exfalso; omega)))
    | (show andThen _ _ _ _; refine goN ?_)
    | (show inBlock _ _ _ _; refine goB ?_)
    | (show retPost _ _ _ _ _; refine finG ?_))
  rfl
theorem ref03_Fraction (a b : Int) (ha : -9223372036854775808 ≤ a) (ha2 : a < 9223372036854775808) (hb : -9223372036854775808 ≤ b) (hb2 : b < 9223372036854775808) (h0 : b ≠ 0) : Ret Tryz.prog 30 [.int .i64 a, .int .i64 b] (· = rD (rq (Rat.divInt a b))) := by
  have h1 := ref02_FromInt a ha ha2
  have h2 := ref02_FromInt b hb hb2
  have l1 := u64_len (v := a.natAbs) (by omega)
  have l2 := u64_len (v := b.natAbs) (by omega)
  have o := ref03_over a b h0 (by omega) (by omega)
  refine ret_of_awp tab Tryz.func30 rfl rfl (Nat.le_of_ble_eq_true rfl) (fun w0 F0 => ?_)
  repeat' (first
    | (show awpL _ _ _ _ _; first | refine goL ?_ | refine cl 61 tt rfl rfl rfl (hr := h1) (k := ?_) | refine cl 61 tt rfl rfl rfl (hr := h2) (k := ?_) | refine cl 56 tt rfl rfl rfl (hr := o) (k := ?_) | (refine gdLG ?_ ?_ <;> intro _ <;> try (exfalso; omega)))
    | (show awp _ _ _ _; first | refine goA ?_ | (refine cdG ?_ ?_ <;> intro _ <;> try (exfalso; omega)))
    | (show andThen _ _ _ _; refine goN ?_)
    | (show inBlock _ _ _ _; refine goB ?_)
    | (show retPost _ _ _ _ _; refine finG ?_))
  rfl
theorem ref01_compareN (m n : Nat) (hm : (limbs m).length < 100000000000) (hn : (limbs n).length < 100000000000) : Ret Tryz.prog 125 [u32s (limbs m), u32s (limbs n)] (· = .int .i64 (cmpN m n)) := by
  have := ref01_compare m n (by omega) (by omega)
  exact this
end Go.Proofs.YtfnckkfbnnbmkaaGreat

/-
  Matrices of rational numbers: the elimination as the specification has it, where each pivot stands in its place. Conditions: as each says.
-/
set_option linter.unusedVariables false
set_option linter.unusedSimpArgs false
namespace Go.Vw
@[reducible] def qC (q : Rat) : List D := rC (rq q)
@[reducible] def qD (q : Rat) : D := rD (rq q)
@[reducible] def qsD (l : List Rat) : D := .sl 3 qC 0 l
@[reducible] def eQ (l : List Rat) : List D := [qsD l]
@[reducible] def qssD (l : List (List Rat)) : D := .sl 1 eQ [] l

def timesQ (l : List Rat) (c : Rat) : List Rat := l.map (· * c)
def plusQ (a b : List Rat) : List Rat := List.zipWith (· + ·) a b
def at2 (m : List (List Rat)) (i j : Nat) : Rat := (m.getD i []).getD j 0
def scaleQ (m : List (List Rat)) (j : Nat) : List (List Rat) := m.set j (timesQ (m.getD j []) (1 / at2 m j j))
def elimRow (m : List (List Rat)) (j i : Nat) : List Rat := if i = j then m.getD j [] else plusQ (m.getD i []) (timesQ (m.getD j []) (-(at2 m i j)))
def elimI (m : List (List Rat)) (j i : Nat) : List (List Rat) := (List.range i).map (elimRow m j) ++ m.drop i
def redQ (m : List (List Rat)) (j : Nat) : List (List Rat) := elimI (scaleQ m j) j m.length

theorem elimI_len {m : List (List Rat)} {j i : Nat} (h : i ≤ m.length) : (elimI m j i).length = m.length := by simp [elimI]; omega
theorem elimI_zero (m : List (List Rat)) (j : Nat) : elimI m j 0 = m := by simp [elimI]
theorem elimI_get_i {m : List (List Rat)} {j i : Nat} (h : i < m.length) : (elimI m j i).getD i [] = m.getD i [] := by
  simp [elimI, List.getD_eq_getElem?_getD, List.getElem?_append_right]
theorem elimI_get_j {m : List (List Rat)} {j i : Nat} (h : j < m.length) (hi : i ≤ m.length) : (elimI m j i).getD j [] = m.getD j [] := by
  by_cases e : j < i
  · simp [elimI, List.getD_eq_getElem?_getD, List.getElem?_append_left, e, elimRow]
  · rw [List.getD_eq_getElem?_getD, elimI, List.getElem?_append_right (by simp; omega)]
    simp [List.getD_eq_getElem?_getD, List.getElem?_drop]
    rw [show i + (j - i) = j by omega]
theorem elimI_set {m : List (List Rat)} {j i : Nat} (h : i < m.length) : (elimI m j i).set i (elimRow m j i) = elimI m j (i + 1) := by
  apply List.ext_getElem?
  intro k
  rw [List.getElem?_set]
  by_cases e : i = k
  · subst e
    rw [if_pos rfl, if_pos (by rw [elimI_len (by omega)]; omega)]
    rw [elimI, List.getElem?_append_left (by simp)]
    simp
  · rw [if_neg e]
    by_cases e2 : k < i
    · rw [elimI, elimI, List.getElem?_append_left (by simpa using e2), List.getElem?_append_left (by simp; omega)]
      simp [e2, show k < i + 1 by omega]
    · rw [elimI, elimI, List.getElem?_append_right (by simp; omega), List.getElem?_append_right (by simp; omega)]
      simp only [List.getElem?_drop, List.length_map, List.length_range]
      congr 1; omega
theorem elimI_keep {m : List (List Rat)} {j : Nat} (h : j < m.length) : elimI m j (j + 1) = elimI m j j := by
  rw [← elimI_set h]
  have e : elimRow m j j = m.getD j [] := by simp [elimRow]
  rw [e]
  apply List.ext_getElem?
  intro k
  rw [List.getElem?_set]
  by_cases e : j = k
  · subst e
    rw [if_pos rfl, if_pos (by rw [elimI_len (by omega)]; omega)]
    have h1 := elimI_get_i (j := j) h
    rw [List.getD_eq_getElem?_getD, List.getD_eq_getElem?_getD] at h1
    rw [List.getD_eq_getElem?_getD]
    have l1 : j < (elimI m j j).length := by rw [elimI_len (by omega)]; omega
    rw [List.getElem?_eq_getElem l1, List.getElem?_eq_getElem h] at h1
    rw [List.getElem?_eq_getElem l1, List.getElem?_eq_getElem h]
    simp at h1 ⊢
    exact h1.symm
  · rw [if_neg e]

/-- A number of two machine words at most. -/
def smallQ (q : Rat) : Prop := q.num.natAbs < 18446744073709551616 ∧ q.den < 18446744073709551616
theorem limbs_len2 {n : Nat} (h : n < 18446744073709551616) : (limbs n).length < 1000 := Nat.lt_of_le_of_lt (length_limbs_le (n := n) (k := 2) (by rw [B_val]; exact h)) (by decide)
theorem limbs_len4 {n : Nat} (h : n < 18446744073709551616 * 18446744073709551616) : (limbs n).length < 1000 := Nat.lt_of_le_of_lt (length_limbs_le (n := n) (k := 4) (by rw [B_val]; exact h)) (by decide)
theorem smallQ.ok {q : Rat} (h : smallQ q) : okQ 1000000 q := ⟨Nat.lt_trans (limbs_len2 h.1) (by decide), Nat.lt_trans (limbs_len2 h.2) (by decide)⟩
theorem smallQ.neg {q : Rat} (h : smallQ q) : smallQ (-q) := by unfold smallQ at *; rw [show (-q).num = -q.num from rfl, show (-q).den = q.den from rfl, Int.natAbs_neg]; exact h
theorem smallQ.one : smallQ 1 := by unfold smallQ; decide
theorem num_mul_le (x y : Rat) : (x * y).num.natAbs ≤ x.num.natAbs * y.num.natAbs ∧ (x * y).den ≤ x.den * y.den := by
  rw [Rat.num_mul, Rat.den_mul, ← Int.natAbs_mul]
  refine ⟨?_, Nat.div_le_self _ _⟩
  have hd : ((((x.num * y.num).natAbs.gcd (x.den * y.den) : Nat)) : Int) ∣ x.num * y.num := Int.ofNat_dvd_left.2 (Nat.gcd_dvd_left _ _)
  rw [Int.natAbs_ediv_of_dvd hd]
  exact Nat.div_le_self _ _
theorem smallQ.mul {x y : Rat} (hx : smallQ x) (hy : smallQ y) : okQ 1000000 (x * y) := by
  obtain ⟨h1, h2⟩ := num_mul_le x y
  exact ⟨Nat.lt_trans (limbs_len4 (Nat.lt_of_le_of_lt h1 (Nat.mul_lt_mul'' hx.1 hy.1))) (by decide), Nat.lt_trans (limbs_len4 (Nat.lt_of_le_of_lt h2 (Nat.mul_lt_mul'' hx.2 hy.2))) (by decide)⟩
theorem smallQ.inv {x : Rat} (hx : smallQ x) : smallQ (1 / x) := by
  unfold smallQ at *
  rw [Rat.div_def, Rat.one_mul, Rat.num_inv, Rat.den_inv]
  refine ⟨?_, ?_⟩
  · rw [Int.natAbs_mul, Int.natAbs_natCast]
    refine Nat.lt_of_le_of_lt (Nat.mul_le_mul_right _ (show x.num.sign.natAbs ≤ 1 from ?_)) (by omega)
    rw [Int.natAbs_sign]; split <;> omega
  · split <;> omega

def goodB (n : Nat) (m : List (List Rat)) : Bool := Nat.beq m.length n && m.all fun r => Nat.beq r.length n && r.all fun q => Nat.blt q.num.natAbs 18446744073709551616 && Nat.blt q.den 18446744073709551616
structure GoodM (n : Nat) (m : List (List Rat)) : Prop where
  len : m.length = n
  row : ∀ i, i < n → (m.getD i []).length = n
  small : ∀ i, i < n → ∀ q ∈ m.getD i [], smallQ q
theorem goodB_spec {n : Nat} {m : List (List Rat)} (h : goodB n m = true) : GoodM n m := by
  simp only [goodB, Bool.and_eq_true, List.all_eq_true, Nat.blt_eq] at h
  obtain ⟨h1, h2⟩ := h
  have h1 := Nat.eq_of_beq_eq_true h1
  have mem : ∀ i, i < n → m.getD i [] ∈ m := fun i hi => by
    rw [List.getD_eq_getElem?_getD, List.getElem?_eq_getElem (by omega)]; exact List.getElem_mem _
  exact ⟨h1, fun i hi => Nat.eq_of_beq_eq_true (h2 _ (mem i hi)).1, fun i hi q hq => (h2 _ (mem i hi)).2 q hq⟩
theorem GoodM.at2 {n : Nat} {m : List (List Rat)} (h : GoodM n m) {i j : Nat} (hi : i < n) (hj : j < n) : smallQ (at2 m i j) := by
  refine h.small i hi _ ?_
  unfold Vw.at2
  have hr := h.row i hi
  generalize m.getD i [] = r at *
  rw [List.getD_eq_getElem?_getD, List.getElem?_eq_getElem (by omega)]; exact List.getElem_mem _
/-- The run keeps to small numbers, and each pivot stands in its place. -/
def okRun (n : Nat) : Nat → List (List Rat) → Rat → Bool
  | 0, m, _ => goodB n m
  | k + 1, m, f => !(decide (at2 m (n - (k + 1)) (n - (k + 1)) = 0)) && Nat.blt f.num.natAbs 18446744073709551616 && Nat.blt f.den 18446744073709551616 && goodB n m && goodB n (scaleQ m (n - (k + 1))) && okRun n k (redQ m (n - (k + 1))) (f * at2 m (n - (k + 1)) (n - (k + 1)))
/-- The matrix and the factor before column j. -/
def mAt (m : List (List Rat)) : Nat → List (List Rat)
  | 0 => m
  | j + 1 => redQ (mAt m j) j
def facAt (m : List (List Rat)) : Nat → Rat
  | 0 => 1
  | j + 1 => facAt m j * at2 (mAt m j) j j
structure RunOk (n : Nat) (m : List (List Rat)) : Prop where
  good : ∀ j, j ≤ n → GoodM n (mAt m j)
  piv : ∀ j, j < n → at2 (mAt m j) j j ≠ 0
  fac : ∀ j, j < n → smallQ (facAt m j)
  scaled : ∀ j, j < n → GoodM n (scaleQ (mAt m j) j)
theorem okRun_spec {n : Nat} {m : List (List Rat)} (h : okRun n n m 1 = true) : RunOk n m := by
  have key : ∀ k, k ≤ n → okRun n k (mAt m (n - k)) (facAt m (n - k)) = true := by
    intro k hk
    have aux : ∀ d, d ≤ n → okRun n (n - d) (mAt m d) (facAt m d) = true := by
      intro d
      induction d with
      | zero => intro _; exact h
      | succ d ih =>
        intro hd
        have := ih (by omega)
        rw [show n - d = (n - (d + 1)) + 1 by omega, okRun] at this
        rw [show n - (n - (d + 1) + 1) = d by omega] at this
        simp only [Bool.and_eq_true] at this
        exact this.2
    have := aux (n - k) (by omega)
    rwa [show n - (n - k) = k by omega] at this
  have step : ∀ j, j < n → (at2 (mAt m j) j j ≠ 0 ∧ smallQ (facAt m j)) ∧ GoodM n (mAt m j) ∧ GoodM n (scaleQ (mAt m j) j) := by
    intro j hj
    have := key (n - j) (by omega)
    rw [show n - j = (n - j - 1) + 1 by omega, okRun] at this
    rw [show n - (n - j - 1 + 1) = j by omega] at this
    simp only [Bool.and_eq_true, Bool.not_eq_true', decide_eq_false_iff_not, Nat.blt_eq] at this
    obtain ⟨⟨⟨⟨⟨h1, h2⟩, h3⟩, h4⟩, h5⟩, _⟩ := this
    exact ⟨⟨h1, h2, h3⟩, goodB_spec h4, goodB_spec h5⟩
  refine ⟨fun j hj => ?_, fun j hj => (step j hj).1.1, fun j hj => (step j hj).1.2, fun j hj => (step j hj).2.2⟩
  rcases Nat.lt_or_ge j n with h | h
  · exact (step j h).2.1
  · have := key 0 (by omega)
    rw [show j = n by omega]
    rw [okRun, Nat.sub_zero] at this
    exact goodB_spec this
theorem scaleQ_len (m : List (List Rat)) (j : Nat) : (scaleQ m j).length = m.length := by simp [scaleQ]
end Go.Vw

/-
  Intervals of rational numbers: what the operations are, in plain terms. Conditions: as each says.
-/
set_option linter.unusedVariables false
set_option linter.unusedSimpArgs false
namespace Go.Vw
abbrev I2 := Rat × Rat
/-- The program's form of an interval. -/
@[reducible] def iD (a b : R3) : D := .agg [.bool a.1, u32s a.2.1, u32s a.2.2, .bool b.1, u32s b.2.1, u32s b.2.2]
@[reducible] def iQ (i : I2) : D := iD (rq i.1) (rq i.2)
def takeI (x y : Rat) : I2 := if y < x then (0, 0) else (x, y)
def okI (k : Nat) (i : I2) : Prop := okQ k i.1 ∧ okQ k i.2
theorem okQ_zero {k : Nat} (h : 1 < k) : okQ k 0 := ⟨by show (limbs 0).length < k; rw [limbs_zero]; simp; omega, by show (limbs 1).length < k; rw [limbs_one]; simpa using h⟩
theorem takeI_ok {k : Nat} {x y : Rat} (hx : okQ k x) (hy : okQ k y) (h : 1 < k) : okI k (takeI x y) := by
  unfold takeI; split
  · exact ⟨okQ_zero h, okQ_zero h⟩
  · exact ⟨hx, hy⟩
theorem takeI_le (x y : Rat) : (takeI x y).1 ≤ (takeI x y).2 := by
  unfold takeI; split
  · exact Rat.le_refl
  · rename_i h; exact Rat.not_lt.1 h
theorem takeI_of {x y : Rat} (h : x ≤ y) : takeI x y = (x, y) := by
  unfold takeI; rw [if_neg (Rat.not_lt.2 h)]
def containsI (i : I2) (v : Rat) : Bool := decide (i.1 ≤ v) && decide (v ≤ i.2)
def withinI (a b : I2) : Bool := decide (b.1 ≤ a.1) && decide (a.2 ≤ b.2)
def minQ (x y : Rat) : Rat := if y < x then y else x
def maxQ (x y : Rat) : Rat := if x < y then y else x
def hullL (x : Rat) (l : List Rat) : I2 := (l.foldl minQ x, l.foldl maxQ x)
def addI (a b : I2) : I2 := (a.1 + b.1, a.2 + b.2)
def subI (a b : I2) : I2 := (a.1 - b.2, a.2 - b.1)
def mulI (a b : I2) : I2 := hullL (a.1 * b.1) [a.1 * b.2, a.2 * b.1, a.2 * b.2]
def divI (a b : I2) : I2 := mulI a (1 / b.2, 1 / b.1)
def sqI (a : I2) : I2 := if containsI a 0 then (0, (hullL (a.1 * a.1) [a.2 * a.2]).2) else hullL (a.1 * a.1) [a.2 * a.2]
def hullI (a b : I2) : I2 := hullL a.1 [a.2, b.1, b.2]
def meetI (a b : I2) : Option I2 := if minQ a.2 b.2 < maxQ a.1 b.1 then none else some (maxQ a.1 b.1, minQ a.2 b.2)
theorem okQ_minQ {k : Nat} {x y : Rat} (hx : okQ k x) (hy : okQ k y) : okQ k (minQ x y) := by unfold minQ; split <;> assumption
theorem okQ_maxQ {k : Nat} {x y : Rat} (hx : okQ k x) (hy : okQ k y) : okQ k (maxQ x y) := by unfold maxQ; split <;> assumption
theorem hullL_ok {k : Nat} : ∀ (l : List Rat) (m n : Rat), okQ k m → okQ k n → (∀ q ∈ l, okQ k q) → okQ k (l.foldl minQ m) ∧ okQ k (l.foldl maxQ n)
  | [], m, n, hm, hn, _ => ⟨hm, hn⟩
  | x :: l, m, n, hm, hn, h => hullL_ok l (minQ m x) (maxQ n x) (okQ_minQ hm (h x (by simp))) (okQ_maxQ hn (h x (by simp))) fun q hq => h q (by simp [hq])
theorem foldl_take {α : Type} (f : α → Rat → α) (a : α) (l : List Rat) {i : Nat} (h : i < l.length) : (l.take (i + 1)).foldl f a = f ((l.take i).foldl f a) (l.getD i 0) := by
  rw [List.take_add_one, List.foldl_append]
  simp [List.getD_eq_getElem?_getD, h]
theorem take_ok {k : Nat} {l : List Rat} {x : Rat} (hx : okQ k x) (h : ∀ q ∈ l, okQ k q) (i : Nat) : okQ k ((l.take i).foldl minQ x) ∧ okQ k ((l.take i).foldl maxQ x) := hullL_ok _ x x hx hx fun q hq => h q (List.mem_of_mem_take hq)
theorem getD_ok {k : Nat} {l : List Rat} (h : ∀ q ∈ l, okQ k q) {i : Nat} (hi : i < l.length) : okQ k (l.getD i 0) := by
  have : l.getD i 0 = l[i] := by simp [List.getD_eq_getElem?_getD, hi]
  rw [this]; exact h _ (List.getElem_mem hi)
theorem minQ_le (x y : Rat) : minQ x y ≤ x ∧ minQ x y ≤ y := by unfold minQ; split <;> constructor <;> grind
theorem maxQ_le (x y : Rat) : x ≤ maxQ x y ∧ y ≤ maxQ x y := by unfold maxQ; split <;> constructor <;> grind
theorem hullL_le : ∀ (l : List Rat) (m n : Rat), m ≤ n → l.foldl minQ m ≤ l.foldl maxQ n
  | [], m, n, h => h
  | x :: l, m, n, h => hullL_le l (minQ m x) (maxQ n x) (by have := (minQ_le m x).1; have := (maxQ_le n x).1; grind)
theorem square_nonneg (x : Rat) : 0 ≤ x * x := by
  rcases Rat.le_total (a := 0) (b := x) with h | h
  · exact Rat.mul_nonneg h h
  · have := Rat.mul_nonneg (a := -x) (b := -x) (by grind) (by grind)
    grind
end Go.Vw
