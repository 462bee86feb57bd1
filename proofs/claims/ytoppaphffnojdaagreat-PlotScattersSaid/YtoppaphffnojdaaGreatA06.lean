/-
  Contracts of functions of the program, and the layer that they are walked with: N08 RatsQ R06 N09 RatsC N10 RatsD N11 RatsM Itv N12 Contr R07 Sorts ItvB ItvC ItvD ItvE OrdersA Pdq VZ W14 W15 W16 W17 W15b W18 W19 N18b W01 VW VX VY W03. Conditions: as each says.
-/
import Derived.Sort.AssemblyPlain
import Derived.Deep.Slices
import Derived.Carry
import Derived.OpenShut
import Derived.WalkKit
import Derived.ProofKit
import Derived.Deep.DeepHandedRow
import Derived.Lib.LaidTab
import Derived.Test.YtoppaphffnojdaaGreatA05
set_option linter.unnecessarySimpa false
set_option linter.unusedVariables false
set_option linter.unusedSimpArgs false
set_option maxHeartbeats 8000000
namespace Go.Proofs.YtoppaphffnojdaaGreat
open Go.Vw
attribute [local irreducible] awp awpL awpR

theorem integer_Valid (neg : Bool) (mag : List Nat) (hl : mag.length < 10000000000000) : Ret Tryz.prog 110 [intC neg mag] (· = .bool (validI neg mag)) := by
  have hv := natural_Valid mag hl
  unfold validI
  generalize valid mag = v at *
  cases v <;> cases neg
  · refine ret_of_awp tab Tryz.func110 rfl rfl (Nat.le_of_ble_eq_true rfl) (fun w0 F0 => ?_)
    repeat' (first | refine wG ?_ | refine wC hv ?_ | refine wS ?_ ?_ <;> intro _ | refine finG ?_)
    rfl
  · refine ret_of_awp tab Tryz.func110 rfl rfl (Nat.le_of_ble_eq_true rfl) (fun w0 F0 => ?_)
    repeat' (first | refine wG ?_ | refine wC hv ?_ | refine wS ?_ ?_ <;> intro _ | refine finG ?_)
    rfl
  · refine ret_of_awp tab Tryz.func110 rfl rfl (Nat.le_of_ble_eq_true rfl) (fun w0 F0 => ?_)
    repeat' (first | refine wG ?_ | refine wC hv ?_ | refine wS ?_ ?_ <;> intro _ | refine finG ?_)
    all_goals simp
  · refine ret_of_awp tab Tryz.func110 rfl rfl (Nat.le_of_ble_eq_true rfl) (fun w0 F0 => ?_)
    repeat' (first | refine wG ?_ | refine wC hv ?_ | refine wS ?_ ?_ <;> intro _ | refine finG ?_)
    · rename_i h
      simp
      intro e; subst e; simp at h
    · rename_i h
      simp
      exact List.length_eq_zero_iff.1 (show mag.length = 0 by omega)
theorem integer_value (neg : Bool) (mag : List Nat) (wm : WF mag) (hl : mag.length < 1000000000000) : Ret Tryz.prog 69 [intC neg mag] (· = zD (iv' neg mag)) := by
  have hv := integer_Valid neg mag (by omega)
  cases h : validI neg mag with
  | false =>
    rw [h] at hv
    rw [show iv' neg mag = 0 from by simp [iv', h]]
    refine ret_of_awp tab Tryz.func69 rfl rfl (Nat.le_of_ble_eq_true rfl) (fun w0 F0 => ?_)
    rw [zD_zero]
    repeat' (first | refine wG ?_ | refine wC hv ?_ | refine wS ?_ ?_ <;> intro _ | (show retPost _ _ _ _ _; first | refine finF true rfl rfl sc ?_ | refine finF false rfl rfl sc ?_ | refine finC false rfl rfl sc sc ?_ | refine finN rfl rfl sc ?_ | refine finL true rfl rfl sc rfl (LeR.cons rfl leL LeR.nil) ?_ | refine finA true rfl rfl sc ?_ | refine finA false rfl rfl sc ?_ | refine finE true rfl rfl sc ?_ | refine finE false rfl rfl sc ?_))
    exact leL
  | true =>
    rw [h] at hv
    rw [← intC_valid wm h]
    refine ret_of_awp tab Tryz.func69 rfl rfl (Nat.le_of_ble_eq_true rfl) (fun w0 F0 => ?_)
    repeat' (first | refine wG ?_ | refine wC hv ?_ | refine wS ?_ ?_ <;> intro _ | refine finG ?_)
    rfl
theorem integer_valueZ (z : Int) (hl : (limbs z.natAbs).length < 1000000000000) : Ret Tryz.prog 69 [zD z] (· = zD z) := by
  have := integer_value (decide (z < 0)) (limbs z.natAbs) (wf_limbs _) hl
  rw [iv'_z] at this
  exact this
theorem integer_SignZ (z : Int) (hl : (limbs z.natAbs).length < 1000000000000) : Ret Tryz.prog 132 [zD z] (· = .int .i64 z.sign) := by
  have ht := integer_valueZ z hl
  obtain ⟨s, n, e1, e2, e3, e4⟩ := zD_cases z
  rw [e1] at ht
  have hn0 : (limbs n).length = 0 ↔ n = 0 := ⟨fun h => limbs_eq_nil.1 (List.length_eq_zero_iff.1 h), fun h => by rw [h, limbs_zero]; rfl⟩
  rw [e1] at *
  cases s with
  | true =>
    have h0 := e4 rfl
    have : z.sign = -1 := Int.sign_eq_neg_one_of_neg (by simp at e2; omega)
    rw [this]
    refine ret_of_awp tab Tryz.func132 rfl rfl (Nat.le_of_ble_eq_true rfl) (fun w0 F0 => ?_)
    repeat' (first | refine wG ?_ | refine wC ht ?_ | refine wS ?_ ?_ <;> intro _ | refine finG ?_)
    rfl
  | false =>
    simp at e2
    refine ret_of_awp tab Tryz.func132 rfl rfl (Nat.le_of_ble_eq_true rfl) (fun w0 F0 => ?_)
    repeat' (first | refine wG ?_ | refine wC ht ?_ | refine wS ?_ ?_ <;> intro _ | refine finG ?_)
    · rename_i hp
      have : n = 0 := by omega
      subst this
      rw [e2]; rfl
    · rename_i hp
      have : z.sign = 1 := Int.sign_eq_one_of_pos (by omega)
      rw [this]
theorem integer_copiedZ (z : Int) (hl : (limbs z.natAbs).length < 100000000000) : Ret Tryz.prog 138 [zD z] (· = zD z) := by
  obtain ⟨s, n, e1, e2, e3, e4⟩ := zD_cases z
  rw [e3] at hl
  have ha := natural_AddN n 0 (by omega) (by rw [limbs_zero]; simp)
  rw [limbs_zero, Nat.add_zero] at ha
  have hs := integer_signed s n (by omega)
  rw [← e2] at hs
  rw [e1] at hs ⊢
  refine ret_of_awp tab Tryz.func138 rfl rfl (Nat.le_of_ble_eq_true rfl) (fun w0 F0 => ?_)
  repeat' (first | refine wG ?_ | refine wC ha ?_ | refine wC hs ?_ | refine rg 1 5 ?_ | refine wS ?_ ?_ <;> intro _ | refine finG ?_)
  rfl
theorem integer_NegZ (z : Int) (hl : (limbs z.natAbs).length < 100000000000) : Ret Tryz.prog 108 [zD z] (· = zD (-z)) := by
  have ht := integer_valueZ z (by omega)
  have hc := integer_copiedZ z hl
  obtain ⟨s, n, e1, e2, e3, e4⟩ := zD_cases z
  rw [e1] at ht hc
  rw [e3] at hl
  have hs := integer_signed (!s) n (by omega)
  have : (if (!s) = true then -(n : Int) else n) = -z := by cases s <;> simp at e2 ⊢ <;> omega
  rw [this] at hs
  rw [e1]
  cases s with
  | true =>
    refine ret_of_awp tab Tryz.func108 rfl rfl (Nat.le_of_ble_eq_true rfl) (fun w0 F0 => ?_)
    repeat' (first | refine wG ?_ | refine wC ht ?_ | refine wC hc ?_ | refine wC hs ?_ | refine wS ?_ ?_ <;> intro _ | refine finG ?_)
    rfl
  | false =>
    refine ret_of_awp tab Tryz.func108 rfl rfl (Nat.le_of_ble_eq_true rfl) (fun w0 F0 => ?_)
    repeat' (first | refine wG ?_ | refine wC ht ?_ | refine wC hc ?_ | refine wC hs ?_ | refine wS ?_ ?_ <;> intro _ | refine finG ?_)
    rfl
theorem integer_AddZ (x y : Int) (h : (limbs x.natAbs).length < 1000000000) (k : (limbs y.natAbs).length < 1000000000) : Ret Tryz.prog 107 [zD x, zD y] (· = zD (x + y)) := by
  have ta := integer_valueZ x (by omega)
  have tb := integer_valueZ y (by omega)
  obtain ⟨s, a, e1, e2, e3, e4⟩ := zD_cases x
  obtain ⟨t, b, f1, f2, f3, f4⟩ := zD_cases y
  rw [e1] at ta
  rw [f1] at tb
  rw [e3] at h
  rw [f3] at k
  have ladd := ln_add a b
  have ls := len_bound (Nat.sub_le a b) h
  have ls' := len_bound (Nat.sub_le b a) k
  simp only [ln] at ladd
  rw [e1, f1]
  cases s <;> cases t
  · refine ret_of_awp tab Tryz.func107 rfl rfl (Nat.le_of_ble_eq_true rfl) (fun w0 F0 => ?_)
    repeat' (first | refine wG ?_ | refine wC ta ?_ | refine wC tb ?_ | refine cl 114 tt rfl rfl rfl (hr := natural_SubN _ _ (by omega) (by omega)) (k := ?_) | refine clR 114 tt rfl rfl rfl (hr := natural_SubN _ _ (by omega) (by omega)) (k := ?_) | refine cl 115 tt rfl rfl rfl (hr := integer_signed _ _ (by omega)) (k := ?_) | refine clR 115 tt rfl rfl rfl (hr := integer_signed _ _ (by omega)) (k := ?_) | refine cl 109 tt rfl rfl rfl (hr := natural_AddN _ _ (by omega) (by omega)) (k := ?_) | refine clR 109 tt rfl rfl rfl (hr := natural_AddN _ _ (by omega) (by omega)) (k := ?_) | refine cl 115 tt rfl rfl rfl (hr := integer_signed false _ (by omega)) (k := ?_) | refine clR 115 tt rfl rfl rfl (hr := integer_signed false _ (by omega)) (k := ?_) | refine rg 1 3 ?_ | refine rg 3 7 ?_ | refine wS ?_ ?_ <;> intro _ | refine finG ?_)
    refine congrArg zD ?_
    rw [e2, f2]; simp only [Bool.false_eq_true, if_true, if_false]; omega
  · refine ret_of_awp tab Tryz.func107 rfl rfl (Nat.le_of_ble_eq_true rfl) (fun w0 F0 => ?_)
    repeat' (first | refine wG ?_ | refine wC ta ?_ | refine wC tb ?_ | refine cl 114 tt rfl rfl rfl (hr := natural_SubN _ _ (by omega) (by omega)) (k := ?_) | refine clR 114 tt rfl rfl rfl (hr := natural_SubN _ _ (by omega) (by omega)) (k := ?_) | refine cl 115 tt rfl rfl rfl (hr := integer_signed _ _ (by omega)) (k := ?_) | refine clR 115 tt rfl rfl rfl (hr := integer_signed _ _ (by omega)) (k := ?_) | refine rg 1 3 ?_ | refine rg 3 7 ?_ | refine wS ?_ ?_ <;> intro _ | refine finG ?_)
    · refine congrArg zD ?_
      rw [e2, f2]; simp only [Bool.false_eq_true, if_true, if_false]; omega
    · refine congrArg zD ?_
      rw [e2, f2]; simp only [Bool.false_eq_true, if_true, if_false]; omega
  · refine ret_of_awp tab Tryz.func107 rfl rfl (Nat.le_of_ble_eq_true rfl) (fun w0 F0 => ?_)
    repeat' (first | refine wG ?_ | refine wC ta ?_ | refine wC tb ?_ | refine cl 114 tt rfl rfl rfl (hr := natural_SubN _ _ (by omega) (by omega)) (k := ?_) | refine clR 114 tt rfl rfl rfl (hr := natural_SubN _ _ (by omega) (by omega)) (k := ?_) | refine cl 115 tt rfl rfl rfl (hr := integer_signed _ _ (by omega)) (k := ?_) | refine clR 115 tt rfl rfl rfl (hr := integer_signed _ _ (by omega)) (k := ?_) | refine rg 1 3 ?_ | refine rg 3 7 ?_ | refine wS ?_ ?_ <;> intro _ | refine finG ?_)
    · refine congrArg zD ?_
      rw [e2, f2]; simp only [Bool.false_eq_true, if_true, if_false]; omega
    · refine congrArg zD ?_
      rw [e2, f2]; simp only [Bool.false_eq_true, if_true, if_false]; omega
  · refine ret_of_awp tab Tryz.func107 rfl rfl (Nat.le_of_ble_eq_true rfl) (fun w0 F0 => ?_)
    repeat' (first | refine wG ?_ | refine wC ta ?_ | refine wC tb ?_ | refine cl 114 tt rfl rfl rfl (hr := natural_SubN _ _ (by omega) (by omega)) (k := ?_) | refine clR 114 tt rfl rfl rfl (hr := natural_SubN _ _ (by omega) (by omega)) (k := ?_) | refine cl 115 tt rfl rfl rfl (hr := integer_signed _ _ (by omega)) (k := ?_) | refine clR 115 tt rfl rfl rfl (hr := integer_signed _ _ (by omega)) (k := ?_) | refine cl 109 tt rfl rfl rfl (hr := natural_AddN _ _ (by omega) (by omega)) (k := ?_) | refine clR 109 tt rfl rfl rfl (hr := natural_AddN _ _ (by omega) (by omega)) (k := ?_) | refine cl 115 tt rfl rfl rfl (hr := integer_signed true _ (by omega)) (k := ?_) | refine clR 115 tt rfl rfl rfl (hr := integer_signed true _ (by omega)) (k := ?_) | refine rg 1 3 ?_ | refine rg 3 7 ?_ | refine wS ?_ ?_ <;> intro _ | refine finG ?_)
    refine congrArg zD ?_
    rw [e2, f2]; simp only [if_true]; omega
theorem integer_MulZ (x y : Int) (h : (limbs x.natAbs).length < 1000000000) (k : (limbs y.natAbs).length < 1000000000) : Ret Tryz.prog 74 [zD x, zD y] (· = zD (x * y)) := by
  have ta := integer_valueZ x (by omega)
  have tb := integer_valueZ y (by omega)
  obtain ⟨s, a, e1, e2, e3, e4⟩ := zD_cases x
  obtain ⟨t, b, f1, f2, f3, f4⟩ := zD_cases y
  rw [e1] at ta
  rw [f1] at tb
  rw [e3] at h
  rw [f3] at k
  have lm := ln_mul a b
  simp only [ln] at lm
  have hm := natural_MulN a b (by omega) (by omega)
  have hs := fun s => integer_signed s (a * b) (by omega)
  rw [e1, f1, e2, f2]
  cases s <;> cases t
  · refine ret_of_awp tab Tryz.func74 rfl rfl (Nat.le_of_ble_eq_true rfl) (fun w0 F0 => ?_)
    repeat' (first | refine wG ?_ | refine wC ta ?_ | refine wC tb ?_ | refine wC hm ?_ | refine wC (hs false) ?_ | refine rg 1 3 ?_ | refine rg 2 10 ?_ | refine wS ?_ ?_ <;> intro _ | refine finG ?_)
    refine congrArg zD ?_
    simp [Int.neg_mul, Int.mul_neg]
  · refine ret_of_awp tab Tryz.func74 rfl rfl (Nat.le_of_ble_eq_true rfl) (fun w0 F0 => ?_)
    repeat' (first | refine wG ?_ | refine wC ta ?_ | refine wC tb ?_ | refine wC hm ?_ | refine wC (hs true) ?_ | refine rg 1 3 ?_ | refine rg 2 10 ?_ | refine wS ?_ ?_ <;> intro _ | refine finG ?_)
    refine congrArg zD ?_
    simp [Int.neg_mul, Int.mul_neg]
  · refine ret_of_awp tab Tryz.func74 rfl rfl (Nat.le_of_ble_eq_true rfl) (fun w0 F0 => ?_)
    repeat' (first | refine wG ?_ | refine wC ta ?_ | refine wC tb ?_ | refine wC hm ?_ | refine wC (hs true) ?_ | refine rg 1 3 ?_ | refine rg 2 10 ?_ | refine wS ?_ ?_ <;> intro _ | refine finG ?_)
    refine congrArg zD ?_
    simp [Int.neg_mul, Int.mul_neg]
  · refine ret_of_awp tab Tryz.func74 rfl rfl (Nat.le_of_ble_eq_true rfl) (fun w0 F0 => ?_)
    repeat' (first | refine wG ?_ | refine wC ta ?_ | refine wC tb ?_ | refine wC hm ?_ | refine wC (hs false) ?_ | refine rg 1 3 ?_ | refine rg 2 10 ?_ | refine wS ?_ ?_ <;> intro _ | refine finG ?_)
    refine congrArg zD ?_
    simp [Int.neg_mul, Int.mul_neg]
theorem cmpZ (x y : Int) (s t : Bool) (a b : Nat) (e2 : x = if s = true then -(a : Int) else a) (f2 : y = if t = true then -(b : Int) else b) (hx : x.sign = y.sign) : x.sign * cmpN a b = (if x < y then -1 else if y < x then 1 else 0) := by
  have hc : cmpN a b = if a < b then -1 else if b < a then 1 else 0 := rfl
  rcases Int.lt_trichotomy x 0 with h | h | h
  · have h1 := Int.sign_eq_neg_one_of_neg h
    have h2 : y < 0 := Int.sign_eq_neg_one_iff_neg.1 (hx ▸ h1)
    rw [h1, hc]
    cases s <;> cases t <;> simp only [Bool.false_eq_true, if_true, if_false] at e2 f2 <;> repeat' split
    all_goals omega
  · have h1 : x.sign = 0 := by rw [h]; rfl
    have h2 : y = 0 := Int.sign_eq_zero_iff_zero.1 (hx ▸ h1)
    rw [h1, Int.zero_mul, if_neg (by omega), if_neg (by omega)]
  · have h1 := Int.sign_eq_one_of_pos h
    have h2 : 0 < y := Int.sign_eq_one_iff_pos.1 (hx ▸ h1)
    rw [h1, hc]
    cases s <;> cases t <;> simp only [Bool.false_eq_true, if_true, if_false] at e2 f2 <;> repeat' split
    all_goals omega
theorem integer_CompareZ (x y : Int) (h : (limbs x.natAbs).length < 1000000000) (k : (limbs y.natAbs).length < 1000000000) : Ret Tryz.prog 104 [zD x, zD y] (· = .int .i64 (if x < y then -1 else if y < x then 1 else 0)) := by
  have ta := integer_valueZ x (by omega)
  have tb := integer_valueZ y (by omega)
  have sa := integer_SignZ x (by omega)
  have sb := integer_SignZ y (by omega)
  obtain ⟨s, a, e1, e2, e3, e4⟩ := zD_cases x
  obtain ⟨t, b, f1, f2, f3, f4⟩ := zD_cases y
  have hcz := cmpZ x y s t a b e2 f2
  rw [e1] at ta sa
  rw [f1] at tb sb
  rw [e3] at h
  rw [f3] at k
  have hc := natural_CompareN a b (by omega) (by omega)
  have hsx : x.sign = -1 ∧ x < 0 ∨ x.sign = 0 ∧ x = 0 ∨ x.sign = 1 ∧ 0 < x := by
    rcases Int.lt_trichotomy x 0 with h | h | h
    · exact .inl ⟨Int.sign_eq_neg_one_of_neg h, h⟩
    · exact .inr (.inl ⟨by rw [h]; rfl, h⟩)
    · exact .inr (.inr ⟨Int.sign_eq_one_of_pos h, h⟩)
  have hsy : y.sign = -1 ∧ y < 0 ∨ y.sign = 0 ∧ y = 0 ∨ y.sign = 1 ∧ 0 < y := by
    rcases Int.lt_trichotomy y 0 with h | h | h
    · exact .inl ⟨Int.sign_eq_neg_one_of_neg h, h⟩
    · exact .inr (.inl ⟨by rw [h]; rfl, h⟩)
    · exact .inr (.inr ⟨Int.sign_eq_one_of_pos h, h⟩)
  have hcb : -1 ≤ cmpN a b ∧ cmpN a b ≤ 1 := by unfold cmpN; split <;> (try split) <;> omega
  rw [e1, f1]
  generalize x.sign = p at *
  generalize y.sign = q at *
  generalize cmpN a b = c at *
  have hpc : -1 ≤ p * c ∧ p * c ≤ 1 := by
    rcases hsx with ⟨h, _⟩ | ⟨h, _⟩ | ⟨h, _⟩ <;> rw [h] <;> omega
  clear e1 f1 e2 f2 e3 f3 e4 f4
  refine ret_of_awp tab Tryz.func104 rfl rfl (Nat.le_of_ble_eq_true rfl) (fun w0 F0 => ?_)
  repeat' (first | refine wG ?_ | refine wC ta ?_ | refine wC tb ?_ | refine wC sa ?_ | refine wC sb ?_ | refine wC hc ?_ | refine rg 1 3 ?_ | refine rg 2 3 ?_ | refine wS ?_ ?_ <;> intro _ | refine finG ?_)
  · rw [if_pos (by omega)]
  · rw [if_neg (by omega), if_pos (by omega)]
  · rw [← hcz (by omega)]
theorem integer_DivZ (x y : Int) (h : (limbs x.natAbs).length < 100000000) (k : (limbs y.natAbs).length < 100000000) (h0 : y ≠ 0) : Ret Tryz.prog 72 [zD x, zD y] (· = .tup [zD (x / y), zD (x % y), .bool true]) := by
  have ta := integer_valueZ x (by omega)
  have tb := integer_valueZ y (by omega)
  obtain ⟨s, a, e1, e2, e3, e4⟩ := zD_cases x
  obtain ⟨t, b, f1, f2, f3, f4⟩ := zD_cases y
  rw [e1] at ta
  rw [f1] at tb
  rw [e3] at h
  rw [f3] at k
  have hb : b ≠ 0 := by omega
  have hd := natural_DivN a b (by omega) (by omega) hb
  have l1 := len_bound (Nat.div_le_self a b) h
  have hr := Nat.mod_lt a (Nat.pos_of_ne_zero hb)
  have hx := Nat.div_add_mod a b
  have l2 := len_bound (Nat.le_of_lt hr) k
  have l3 := len_bound (Nat.sub_le b (a % b)) k
  have l4 := ln_add (a / b) 1
  have l5 := ln_one
  simp only [ln] at l4 l5
  have ha := natural_AddN (a / b) 1 (by omega) (by omega)
  rw [show limbs 1 = [1] from limbs_small (by decide) (by decide)] at ha
  have hs := natural_SubN b (a % b) (by omega) (by omega)
  have hz : (limbs (a % b)).length = 0 ↔ a % b = 0 := ⟨fun h => limbs_eq_nil.1 (List.length_eq_zero_iff.1 h), fun h => by rw [h, limbs_zero]; rfl⟩
  rw [e1, f1]
  generalize a / b = q at *
  generalize a % b = r at *
  have hx' : (b : Int) * q + r = a := by rw [← hx]; simp
  cases s <;> cases t
  · simp only [Bool.false_eq_true, if_true, if_false] at e2 f2
    refine ret_of_awp tab Tryz.func72 rfl rfl (Nat.le_of_ble_eq_true rfl) (fun w0 F0 => ?_)
    repeat' (first | refine wG ?_ | refine wC ta ?_ | refine wC tb ?_ | refine wC hd ?_ | refine wC ha ?_ | refine wC hs ?_ | refine cl 115 tt rfl rfl rfl (hr := integer_signed _ _ (by omega)) (k := ?_) | refine clR 115 tt rfl rfl rfl (hr := integer_signed _ _ (by omega)) (k := ?_) | refine rg 1 3 ?_ | refine wS ?_ ?_ <;> intro _ | refine finG ?_)
    · refine divz (q := (q:Int)) (r := (r:Int)) ?_ ?_ ?_
      · rw [e2, f2]; (try simp only [Int.neg_mul, Int.mul_neg, Int.neg_neg, Int.mul_add, Int.mul_one, Int.natCast_add, Int.natCast_one]); omega
      · omega
      · omega
  · simp only [Bool.false_eq_true, if_true, if_false] at e2 f2
    refine ret_of_awp tab Tryz.func72 rfl rfl (Nat.le_of_ble_eq_true rfl) (fun w0 F0 => ?_)
    repeat' (first | refine wG ?_ | refine wC ta ?_ | refine wC tb ?_ | refine wC hd ?_ | refine wC ha ?_ | refine wC hs ?_ | refine cl 115 tt rfl rfl rfl (hr := integer_signed _ _ (by omega)) (k := ?_) | refine clR 115 tt rfl rfl rfl (hr := integer_signed _ _ (by omega)) (k := ?_) | refine cl 115 tt rfl rfl rfl (hr := integer_signed false _ (by omega)) (k := ?_) | refine clR 115 tt rfl rfl rfl (hr := integer_signed false _ (by omega)) (k := ?_) | refine cl 115 tt rfl rfl rfl (hr := integer_signed true _ (by omega)) (k := ?_) | refine clR 115 tt rfl rfl rfl (hr := integer_signed true _ (by omega)) (k := ?_) | refine rg 1 3 ?_ | refine wS ?_ ?_ <;> intro _ | refine finG ?_)
    · refine divz (q := -(q:Int)) (r := (r:Int)) ?_ ?_ ?_
      · rw [e2, f2]; (try simp only [Int.neg_mul, Int.mul_neg, Int.neg_neg, Int.mul_add, Int.mul_one, Int.natCast_add, Int.natCast_one]); omega
      · omega
      · omega
  · simp only [Bool.false_eq_true, if_true, if_false] at e2 f2
    refine ret_of_awp tab Tryz.func72 rfl rfl (Nat.le_of_ble_eq_true rfl) (fun w0 F0 => ?_)
    repeat' (first | refine wG ?_ | refine wC ta ?_ | refine wC tb ?_ | refine wC hd ?_ | refine wC ha ?_ | refine wC hs ?_ | refine cl 115 tt rfl rfl rfl (hr := integer_signed _ _ (by omega)) (k := ?_) | refine clR 115 tt rfl rfl rfl (hr := integer_signed _ _ (by omega)) (k := ?_) | refine cl 115 tt rfl rfl rfl (hr := integer_signed false _ (by omega)) (k := ?_) | refine clR 115 tt rfl rfl rfl (hr := integer_signed false _ (by omega)) (k := ?_) | refine cl 115 tt rfl rfl rfl (hr := integer_signed true _ (by omega)) (k := ?_) | refine clR 115 tt rfl rfl rfl (hr := integer_signed true _ (by omega)) (k := ?_) | refine rg 1 3 ?_ | refine wS ?_ ?_ <;> intro _ | refine finG ?_)
    · rename_i hc
      refine divz (q := -((q+1:Nat):Int)) (r := ((b-r:Nat):Int)) ?_ ?_ ?_
      · rw [e2, f2]; (try simp only [Int.neg_mul, Int.mul_neg, Int.neg_neg, Int.mul_add, Int.mul_one, Int.natCast_add, Int.natCast_one]); omega
      · omega
      · omega
    · rename_i hc
      have hc0 : r = 0 := hz.1 (by omega)
      refine divz (q := -(q:Int)) (r := (r:Int)) ?_ ?_ ?_
      · rw [e2, f2]; (try simp only [Int.neg_mul, Int.mul_neg, Int.neg_neg, Int.mul_add, Int.mul_one, Int.natCast_add, Int.natCast_one]); omega
      · omega
      · omega
  · simp only [Bool.false_eq_true, if_true, if_false] at e2 f2
    refine ret_of_awp tab Tryz.func72 rfl rfl (Nat.le_of_ble_eq_true rfl) (fun w0 F0 => ?_)
    repeat' (first | refine wG ?_ | refine wC ta ?_ | refine wC tb ?_ | refine wC hd ?_ | refine wC ha ?_ | refine wC hs ?_ | refine cl 115 tt rfl rfl rfl (hr := integer_signed _ _ (by omega)) (k := ?_) | refine clR 115 tt rfl rfl rfl (hr := integer_signed _ _ (by omega)) (k := ?_) | refine cl 115 tt rfl rfl rfl (hr := integer_signed false _ (by omega)) (k := ?_) | refine clR 115 tt rfl rfl rfl (hr := integer_signed false _ (by omega)) (k := ?_) | refine cl 115 tt rfl rfl rfl (hr := integer_signed true _ (by omega)) (k := ?_) | refine clR 115 tt rfl rfl rfl (hr := integer_signed true _ (by omega)) (k := ?_) | refine rg 1 3 ?_ | refine wS ?_ ?_ <;> intro _ | refine finG ?_)
    · rename_i hc
      refine divz (q := ((q+1:Nat):Int)) (r := ((b-r:Nat):Int)) ?_ ?_ ?_
      · rw [e2, f2]; (try simp only [Int.neg_mul, Int.mul_neg, Int.neg_neg, Int.mul_add, Int.mul_one, Int.natCast_add, Int.natCast_one]); omega
      · omega
      · omega
    · rename_i hc
      have hc0 : r = 0 := hz.1 (by omega)
      refine divz (q := (q:Int)) (r := (r:Int)) ?_ ?_ ?_
      · rw [e2, f2]; (try simp only [Int.neg_mul, Int.mul_neg, Int.neg_neg, Int.mul_add, Int.mul_one, Int.natCast_add, Int.natCast_one]); omega
      · omega
      · omega
end Go.Proofs.YtoppaphffnojdaaGreat

/-
  Rational numbers: what the fields stand for, and the fields of a number. Conditions: as each says.
-/
namespace Go.Vw

def dL (d : Nat) : List Nat := if d = 1 then [] else limbs d
def rq (q : Rat) : R3 := (decide (q.num < 0), limbs q.num.natAbs, dL q.den)
def dv (d : List Nat) : Nat := if d = [] then 1 else val d
def validR (r : R3) : Bool := validI r.1 r.2.1 && valid r.2.2 && !decide (r.2.2 = [1]) && (decide (r.2.2 = []) || (decide (r.2.1 ≠ []) && decide (limbs (Nat.gcd (nv r.2.1) (nv r.2.2)) = [1])))
def rv (r : R3) : Rat := if h : validR r = true ∧ dv r.2.2 ≠ 0 ∧ (iv' r.1 r.2.1).natAbs.Coprime (dv r.2.2) then ⟨iv' r.1 r.2.1, dv r.2.2, h.2.1, h.2.2⟩ else 0

theorem limbs_one : limbs 1 = [1] := limbs_small (by decide) (by decide)
theorem valid_one_of {d : List Nat} (h : valid d = true) (w : WF d) (h1 : d ≠ [1]) (h2 : d ≠ []) : 2 ≤ val d := by
  have e := limbs_val w h
  have a : val d ≠ 0 := fun h0 => h2 (by rw [← e, h0, limbs_zero])
  have b : val d ≠ 1 := fun h0 => h1 (by rw [← e, h0, limbs_one])
  omega
theorem dL_dv {d : List Nat} (h : valid d = true) (w : WF d) (h1 : d ≠ [1]) : dL (dv d) = d := by
  by_cases h2 : d = []
  · subst h2; rfl
  · have := valid_one_of h w h1 h2
    rw [dv, if_neg h2, dL, if_neg (by omega), limbs_val w h]
structure RatOk (r : R3) (k : Nat) : Prop where
  wm : WF r.2.1
  wd : WF r.2.2
  lm : r.2.1.length < k
  ld : r.2.2.length < k
theorem validR_parts {r : R3} (h : validR r = true) (wm : WF r.2.1) (wd : WF r.2.2) : dv r.2.2 ≠ 0 ∧ (iv' r.1 r.2.1).natAbs.Coprime (dv r.2.2) := by
  unfold validR at h
  simp only [Bool.and_eq_true, Bool.or_eq_true, decide_eq_true_eq, Bool.not_eq_true', decide_eq_false_iff_not] at h
  obtain ⟨⟨⟨h1, h2⟩, h3⟩, h4⟩ := h
  by_cases h0 : r.2.2 = []
  · rw [h0]; exact ⟨by decide, by simp [dv]⟩
  · obtain ⟨h4, h5⟩ := h4.resolve_left h0
    have hm : valid r.2.1 = true := by unfold validI at h1; simp at h1; exact h1.1
    have e : dv r.2.2 = val r.2.2 := by rw [dv, if_neg h0]
    have := valid_one_of h2 wd h3 h0
    refine ⟨by rw [e]; omega, ?_⟩
    rw [e, iv'_abs, if_pos h1, Nat.Coprime]
    rw [nv_val hm, nv_val h2, ← limbs_one] at h5
    exact limbs_inj h5
theorem rq_rv {r : R3} (h : validR r = true) (wm : WF r.2.1) (wd : WF r.2.2) : rq (rv r) = r := by
  have hp := validR_parts h wm wd
  unfold rv
  rw [dif_pos ⟨h, hp.1, hp.2⟩]
  unfold validR at h
  simp only [Bool.and_eq_true, Bool.or_eq_true, decide_eq_true_eq, Bool.not_eq_true', decide_eq_false_iff_not] at h
  obtain ⟨⟨⟨h1, h2⟩, h3⟩, h4⟩ := h
  obtain ⟨n, m, d⟩ := r
  simp only at *
  have hz := intC_valid wm h1
  unfold zD intC at hz
  simp only [D.agg.injEq, List.cons.injEq, D.bool.injEq, and_true] at hz
  obtain ⟨g1, g2⟩ := hz
  have g3 : m = limbs (iv' n m).natAbs := by simpa using g2
  unfold rq
  simp only
  rw [dL_dv h2 wd h3, ← g1, ← g3]
theorem dL_valid (d : Nat) : valid (dL d) = true := by
  unfold dL; split
  · rfl
  · exact valid_limbs d
theorem wf_dL (d : Nat) : WF (dL d) := by
  unfold dL; split
  · exact WF.nil
  · exact wf_limbs d
theorem dv_dL {d : Nat} (h : d ≠ 0) : dv (dL d) = d := by
  unfold dL; split
  · rename_i e; rw [e]; rfl
  · rw [dv, if_neg (mt limbs_eq_nil.1 h), val_limbs]
theorem dL_ne1 (d : Nat) : dL d ≠ [1] := by
  unfold dL; split
  · simp
  · rename_i h; rw [← limbs_one]; exact fun e => h (limbs_inj e)
theorem validR_rq (q : Rat) : validR (rq q) = true := by
  unfold validR rq
  simp only [validI_z, dL_valid, Bool.true_and, Bool.and_eq_true, Bool.or_eq_true, decide_eq_true_eq, Bool.not_eq_true', decide_eq_false_iff_not]
  refine ⟨dL_ne1 _, ?_⟩
  by_cases h : q.den = 1
  · left; rw [dL, if_pos h]
  · right
    have hd := q.den_nz
    rw [dL, if_neg h, nv_limbs, nv_limbs]
    have hc : Nat.gcd q.num.natAbs q.den = 1 := q.reduced
    refine ⟨fun e => ?_, by rw [hc, limbs_one]⟩
    rw [limbs_eq_nil] at e
    rw [e, Nat.gcd_zero_left] at hc
    exact h hc
theorem wf_rq (q : Rat) : WF (rq q).2.1 ∧ WF (rq q).2.2 := ⟨wf_limbs _, wf_dL _⟩
theorem rv_rq (q : Rat) : rv (rq q) = q := by
  have hp := validR_parts (validR_rq q) (wf_rq q).1 (wf_rq q).2
  unfold rv
  rw [dif_pos ⟨validR_rq q, hp.1, hp.2⟩]
  have e1 : iv' (rq q).1 (rq q).2.1 = q.num := iv'_z q.num
  have e2 : dv (rq q).2.2 = q.den := dv_dL q.den_nz
  apply Rat.ext
  · exact e1
  · exact e2
theorem rv_invalid {r : R3} (h : validR r = false) : rv r = 0 := by
  unfold rv
  rw [dif_neg]
  rw [h]; simp
theorem rq_zero : rq 0 = r0 := by
  show (decide ((0 : Rat).num < 0), limbs (0 : Rat).num.natAbs, dL (0 : Rat).den) = _
  have a : (0 : Rat).num = 0 := rfl
  have b : (0 : Rat).den = 1 := rfl
  rw [a, b]
  simp [limbs_zero, dL]
def okQ (k : Nat) (q : Rat) : Prop := (limbs q.num.natAbs).length < k ∧ (limbs q.den).length < k
theorem okQ.mono {k l : Nat} {q : Rat} (h : okQ k q) (hl : k ≤ l) : okQ l q := ⟨Nat.lt_of_lt_of_le h.1 hl, Nat.lt_of_lt_of_le h.2 hl⟩
theorem okQ_rv {r : R3} {k : Nat} (h : RatOk r k) (hk : 1 < k) : okQ k (rv r) := by
  cases hv : validR r with
  | false => rw [rv_invalid hv]; exact ⟨by show (limbs 0).length < k; rw [limbs_zero]; simp; omega, by show (limbs 1).length < k; rw [limbs_one]; simpa using hk⟩
  | true =>
    have hp := validR_parts hv h.wm h.wd
    unfold rv
    rw [dif_pos ⟨hv, hp.1, hp.2⟩]
    refine ⟨Nat.lt_of_le_of_lt (iv'_len h.wm) h.lm, ?_⟩
    show (limbs (dv r.2.2)).length < k
    unfold dv
    split
    · rw [limbs_one]; simpa using hk
    · exact Nat.lt_of_le_of_lt (length_limbs_le (val_lt h.wd)) h.ld
end Go.Vw

set_option maxHeartbeats 8000000
namespace Go.Proofs.YtoppaphffnojdaaGreat
open Go.Vw
attribute [local irreducible] awp awpL awpR

theorem ref02_SignZ (z : Int) (h : (limbs z.natAbs).length < 1000000000000) : Ret Tryz.prog 89 [zD z] (· = .int .i64 z.sign) := by
  have := ref02_Sign _ _ (IntOk.z h); rw [iv'_z] at this; exact this
theorem ref02_NegZ (z : Int) (h : (limbs z.natAbs).length < 1000000000000) : Ret Tryz.prog 92 [zD z] (· = zD (-z)) := by
  have := ref02_Neg _ _ (IntOk.z h); rw [iv'_z] at this; exact this
theorem ref02_AddZ (x y : Int) (h : (limbs x.natAbs).length < 100000000000) (k : (limbs y.natAbs).length < 100000000000) : Ret Tryz.prog 95 [zD x, zD y] (· = zD (x + y)) := by
  have := ref02_Add _ _ _ _ (IntOk.z h) (IntOk.z k); rw [iv'_z, iv'_z] at this; exact this
theorem ref02_MulZ (x y : Int) (h : (limbs x.natAbs).length < 10000000000) (k : (limbs y.natAbs).length < 10000000000) : Ret Tryz.prog 84 [zD x, zD y] (· = zD (x * y)) := by
  have := ref02_Mul _ _ _ _ (IntOk.z h) (IntOk.z k); rw [iv'_z, iv'_z] at this; exact this
theorem ref02_GcdZ (x y : Int) (h : (limbs x.natAbs).length < 100000000) (k : (limbs y.natAbs).length < 100000000) : Ret Tryz.prog 93 [zD x, zD y] (· = u32s (limbs (Int.gcd x y))) := by
  have := ref02_Gcd _ _ _ _ (IntOk.z h) (IntOk.z k); rw [iv'_z, iv'_z] at this; exact this
theorem ref02_DivZ (x y : Int) (h : (limbs x.natAbs).length < 100000000) (k : (limbs y.natAbs).length < 100000000) (h0 : y ≠ 0) : Ret Tryz.prog 81 [zD x, zD y] (· = .tup [zD (x / y), zD (x % y), .bool true]) := by
  have := ref02_Div _ _ _ _ (IntOk.z h) (IntOk.z k) (by rw [iv'_z]; exact h0); rw [iv'_z, iv'_z] at this; exact this
theorem zD_nat (n : Nat) : zD (n : Int) = .agg [.bool false, u32s (limbs n)] := by
  unfold zD intC
  rw [decide_eq_false (by omega), Int.natAbs_natCast]

theorem ref03_one (l : List Nat) (hl : l.length < 10000000000000) : Ret Tryz.prog 94 [u32s l] (· = .bool (decide (l = [1]))) := by
  refine ret_of_awp tab Tryz.func94 rfl rfl (Nat.le_of_ble_eq_true rfl) (fun w0 F0 => ?_)
  repeat' (first | refine wG ?_ | refine wS ?_ ?_ <;> intro _ | refine finG ?_)
  · rename_i h
    obtain ⟨x, rfl⟩ := List.length_eq_one_iff.1 (show l.length = 1 by omega)
    congr 1
    simp; omega
  · rename_i h
    congr 1
    symm; rw [decide_eq_false_iff_not]
    intro e; subst e; exact h rfl
theorem ref03_Valid (r : R3) (h : RatOk r 100000000) : Ret Tryz.prog 123 [rD r] (· = .bool (validR r)) := by
  obtain ⟨n, m, d⟩ := r
  obtain ⟨wm, wd, lm, ld⟩ := h
  simp only at wm wd lm ld
  have hi := ref02_Valid n m (by omega)
  have hd := ref01_Valid d (by omega)
  have h1 := ref03_one d (by omega)
  have hg := ref01_Gcd m d lm ld wm wd
  have lg : (limbs (Nat.gcd (nv m) (nv d))).length < 10000000000000 := by
    have l1 := length_limbs_nv wm
    have l2 := length_limbs_nv wd
    by_cases h0 : nv m = 0
    · rw [h0, Nat.gcd_zero_left]; omega
    · have := limbs_len_mono (Nat.gcd_le_left (nv d) (Nat.pos_of_ne_zero h0)); omega
  have h2 := ref03_one _ lg
  unfold validR
  generalize hvi : validI n m = vi at *
  generalize hvd : valid d = vd at *
  refine ret_of_awp tab Tryz.func123 rfl rfl (Nat.le_of_ble_eq_true rfl) (fun w0 F0 => ?_)
  repeat' (first | refine wG ?_ | refine wC hi ?_ | refine wC hd ?_ | refine wC h1 ?_ | refine wC hg ?_ | refine wC h2 ?_ | refine wS ?_ ?_ <;> intro _ | refine finG ?_)
  all_goals
    clear hi hd h1 hg h2
    congr 1
    simp_all
  rename_i hm
  intro _ e; subst e; simp at hm

theorem ref03_Take (r : R3) (h : RatOk r 100000000) : Ret Tryz.prog 80 [rD r] (· = rD (rq (rv r))) := by
  have hv := ref03_Valid r h
  have e := rq_rv (r := r)
  have e0 := rv_invalid (r := r)
  have okq := okQ_rv h (by decide)
  cases hr : validR r with
  | false =>
    rw [hr] at hv
    rw [e0 hr, rq_zero]
    refine ret_of_awp tab Tryz.func80 rfl rfl (Nat.le_of_ble_eq_true rfl) (fun w0 F0 => ?_)
    repeat' (first | refine wG ?_ | refine wC hv ?_ | refine rg 3 5 ?_ | refine wS ?_ ?_ <;> intro _ | (show retPost _ _ _ _ _; first | refine finF true rfl rfl sc ?_ | refine finF false rfl rfl sc ?_ | refine finC false rfl rfl sc sc ?_ | refine finN rfl rfl sc ?_ | refine finL true rfl rfl sc rfl (LeR.cons rfl leL LeR.nil) ?_ | refine finA true rfl rfl sc ?_ | refine finA false rfl rfl sc ?_ | refine finE true rfl rfl sc ?_ | refine finE false rfl rfl sc ?_))
    exact leL
  | true =>
    rw [hr] at hv
    have e := e hr h.wm h.wd
    rw [e]
    rw [← e] at hv ⊢
    generalize rv r = q at *
    have ht := ref02_TakeZ q.num (by have := okq.1; omega)
    have hd := ref01_Take (dL q.den) (by have := h.ld; rw [← e] at this; have : (dL q.den).length < 100000000 := this; omega)
    rw [takeL, dL_valid, if_pos rfl] at hd
    refine ret_of_awp tab Tryz.func80 rfl rfl (Nat.le_of_ble_eq_true rfl) (fun w0 F0 => ?_)
    repeat' (first | refine wG ?_ | refine wC hv ?_ | refine wC ht ?_ | refine wC hd ?_ | refine rg 3 5 ?_ | refine wS ?_ ?_ <;> intro _ | refine finG ?_)
    rfl
theorem ref03_Den (q : Rat) (h : okQ 100000000 q) : Ret Tryz.prog 82 [rD (rq q)] (· = zD q.den) := by
  have hd := ref01_TakeN q.den (by have := h.2; omega)
  rw [zD_nat]
  by_cases h1 : q.den = 1
  · have e : rq q = (decide (q.num < 0), limbs q.num.natAbs, []) := by rw [rq, h1]; rfl
    rw [e, h1, limbs_one]
    refine ret_of_awp tab Tryz.func82 rfl rfl (Nat.le_of_ble_eq_true rfl) (fun w0 F0 => ?_)
    repeat' (first | refine wG ?_ | refine wS ?_ ?_ <;> intro _ | (show retPost _ _ _ _ _; first | refine finF true rfl rfl sc ?_ | refine finF false rfl rfl sc ?_ | refine finC false rfl rfl sc sc ?_ | refine finN rfl rfl sc ?_ | refine finL true rfl rfl sc rfl (LeR.cons rfl leL LeR.nil) ?_ | refine finA true rfl rfl sc ?_ | refine finA false rfl rfl sc ?_ | refine finE true rfl rfl sc ?_ | refine finE false rfl rfl sc ?_))
    exact leL
  · have e : rq q = (decide (q.num < 0), limbs q.num.natAbs, limbs q.den) := by rw [rq, dL, if_neg h1]
    have l0 : (limbs q.den).length ≠ 0 := fun e => q.den_nz (limbs_eq_nil.1 (List.length_eq_zero_iff.1 e))
    rw [e]
    show Ret _ _ [.agg [.bool (decide (q.num < 0)), u32s (limbs q.num.natAbs), u32s (limbs q.den)]] _
    refine ret_of_awp tab Tryz.func82 rfl rfl (Nat.le_of_ble_eq_true rfl) (fun w0 F0 => ?_)
    repeat' (first | refine wG ?_ | refine wC hd ?_ | refine wS ?_ ?_ <;> intro _ | (show retPost _ _ _ _ _; first | refine finF true rfl rfl sc ?_ | refine finF false rfl rfl sc ?_ | refine finC false rfl rfl sc sc ?_ | refine finN rfl rfl sc ?_ | refine finL true rfl rfl sc rfl (LeR.cons rfl leL LeR.nil) ?_ | refine finA true rfl rfl sc ?_ | refine finA false rfl rfl sc ?_ | refine finE true rfl rfl sc ?_ | refine finE false rfl rfl sc ?_))
    exact leL

theorem divInt_parts (a b : Int) (hb : 0 < b) : rq (Rat.divInt a b) = (decide (a / (Int.gcd a b : Nat) < 0), limbs (a / (Int.gcd a b : Nat)).natAbs, dL (b / (Int.gcd a b : Nat)).natAbs) := by
  unfold rq
  rw [Rat.num_divInt, Rat.den_divInt, if_neg (by omega), Int.sign_eq_one_of_pos hb, Int.one_mul, Int.gcd_comm b a]
  have : (b / (Int.gcd a b : Nat)).natAbs = b.natAbs / Int.gcd a b := by
    obtain ⟨n, rfl⟩ := Int.eq_ofNat_of_zero_le (show 0 ≤ b by omega)
    rw [← Int.natCast_ediv, Int.natAbs_natCast, Int.natAbs_natCast]
  rw [this]
theorem over_pos (a b : Int) (hb : 0 < b) (la : (limbs a.natAbs).length < 100000000) (lb : (limbs b.natAbs).length < 100000000) : Ret Tryz.prog 55 [zD a, zD b] (· = rD (rq (Rat.divInt a b))) := by
  have hs := ref02_SignZ b (by omega)
  rw [Int.sign_eq_one_of_pos hb] at hs
  have hg := ref02_GcdZ a b la lb
  have g0 : Int.gcd a b ≠ 0 := fun e => by have := Int.eq_zero_of_gcd_eq_zero_right e; omega
  have lg : (limbs ((Int.gcd a b : Nat) : Int).natAbs).length < 100000000 := by
    rw [Int.natAbs_natCast]
    exact len_bound (Nat.le_of_dvd (by omega) (Int.gcd_dvd_natAbs_right a b)) lb
  have h1 := ref02_DivZ a (Int.gcd a b : Nat) la lg (by omega)
  have h2 := ref02_DivZ b (Int.gcd a b : Nat) lb lg (by omega)
  rw [zD_nat] at h1 h2
  have ho := ref03_one (limbs (b / (Int.gcd a b : Nat)).natAbs) (by
    have := limbs_len_mono (m := (b / (Int.gcd a b : Nat)).natAbs) (n := b.natAbs) (by
      rw [Int.natAbs_ediv_of_nonneg (by omega)]
      exact Nat.div_le_self _ _)
    omega)
  rw [divInt_parts a b hb]
  show Ret _ _ _ (· = .agg [.bool (decide (a / (Int.gcd a b : Nat) < 0)), u32s (limbs (a / (Int.gcd a b : Nat)).natAbs), u32s (dL (b / (Int.gcd a b : Nat)).natAbs)])
  generalize a / (Int.gcd a b : Nat) = x at *
  generalize b / (Int.gcd a b : Nat) = y at *
  refine ret_of_awp tab Tryz.func55 rfl rfl (Nat.le_of_ble_eq_true rfl) (fun w0 F0 => ?_)
  repeat' (first | refine wG ?_ | refine wC hs ?_ | refine wC hg ?_ | refine wC h1 ?_ | refine wC h2 ?_ | refine wC ho ?_ | refine rg 2 3 ?_ | refine wS ?_ ?_ <;> intro _ | (show retPost _ _ _ _ _; first | refine finF true rfl rfl sc ?_ | refine finF false rfl rfl sc ?_ | refine finC false rfl rfl sc sc ?_ | refine finN rfl rfl sc ?_ | refine finL true rfl rfl sc rfl (LeR.cons rfl leL LeR.nil) ?_ | refine finA true rfl rfl sc ?_ | refine finA false rfl rfl sc ?_ | refine finE true rfl rfl sc ?_ | refine finE false rfl rfl sc ?_))
  · rename_i e
    rw [show dL y.natAbs = [] by rw [dL, if_pos (limbs_inj (e.trans limbs_one.symm))]]
    exact leL
  · rename_i e
    rw [show dL y.natAbs = limbs y.natAbs by rw [dL, if_neg (fun h => e (by rw [h, limbs_one]))]]
    exact leL
theorem over_neg (a b : Int) (hb : b < 0) (la : (limbs a.natAbs).length < 100000000) (lb : (limbs b.natAbs).length < 100000000) : Ret Tryz.prog 55 [zD a, zD b] (· = rD (rq (Rat.divInt a b))) := by
  have hs := ref02_SignZ b (by omega)
  rw [Int.sign_eq_neg_one_of_neg hb] at hs
  have na := ref02_NegZ a (by omega)
  have nb := ref02_NegZ b (by omega)
  rw [← Rat.neg_divInt_neg]
  have hb : 0 < -b := by omega
  rw [← Int.natAbs_neg] at la lb
  generalize -a = a' at *
  generalize -b = b' at *
  have hg := ref02_GcdZ a' b' la lb
  have g0 : Int.gcd a' b' ≠ 0 := fun e => by have := Int.eq_zero_of_gcd_eq_zero_right e; omega
  have lg : (limbs ((Int.gcd a' b' : Nat) : Int).natAbs).length < 100000000 := by
    rw [Int.natAbs_natCast]
    exact len_bound (Nat.le_of_dvd (by omega) (Int.gcd_dvd_natAbs_right a' b')) lb
  have h1 := ref02_DivZ a' (Int.gcd a' b' : Nat) la lg (by omega)
  have h2 := ref02_DivZ b' (Int.gcd a' b' : Nat) lb lg (by omega)
  rw [zD_nat] at h1 h2
  have ho := ref03_one (limbs (b' / (Int.gcd a' b' : Nat)).natAbs) (by
    have := limbs_len_mono (m := (b' / (Int.gcd a' b' : Nat)).natAbs) (n := b'.natAbs) (by
      rw [Int.natAbs_ediv_of_nonneg (by omega)]
      exact Nat.div_le_self _ _)
    omega)
  rw [divInt_parts a' b' hb]
  show Ret _ _ _ (· = .agg [.bool (decide (a' / (Int.gcd a' b' : Nat) < 0)), u32s (limbs (a' / (Int.gcd a' b' : Nat)).natAbs), u32s (dL (b' / (Int.gcd a' b' : Nat)).natAbs)])
  generalize a' / (Int.gcd a' b' : Nat) = x at *
  generalize b' / (Int.gcd a' b' : Nat) = y at *
  refine ret_of_awp tab Tryz.func55 rfl rfl (Nat.le_of_ble_eq_true rfl) (fun w0 F0 => ?_)
  repeat' (first | refine wG ?_ | refine wC hs ?_ | refine wC na ?_ | refine wC nb ?_ | refine wC hg ?_ | refine wC h1 ?_ | refine wC h2 ?_ | refine wC ho ?_ | refine rg 2 3 ?_ | refine wS ?_ ?_ <;> intro _ | (show retPost _ _ _ _ _; first | refine finF true rfl rfl sc ?_ | refine finF false rfl rfl sc ?_ | refine finC false rfl rfl sc sc ?_ | refine finN rfl rfl sc ?_ | refine finL true rfl rfl sc rfl (LeR.cons rfl leL LeR.nil) ?_ | refine finA true rfl rfl sc ?_ | refine finA false rfl rfl sc ?_ | refine finE true rfl rfl sc ?_ | refine finE false rfl rfl sc ?_))
  · rename_i e
    rw [show dL y.natAbs = [] by rw [dL, if_pos (limbs_inj (e.trans limbs_one.symm))]]
    exact leL
  · rename_i e
    rw [show dL y.natAbs = limbs y.natAbs by rw [dL, if_neg (fun h => e (by rw [h, limbs_one]))]]
    exact leL
theorem ref03_over (a b : Int) (hb : b ≠ 0) (la : (limbs a.natAbs).length < 100000000) (lb : (limbs b.natAbs).length < 100000000) : Ret Tryz.prog 55 [zD a, zD b] (· = rD (rq (Rat.divInt a b))) := by
  rcases Int.lt_or_gt_of_ne hb with h | h
  · exact over_neg a b h la lb
  · exact over_pos a b h la lb

theorem ref03_Add (r t : R3) (hr : RatOk r 10000000) (ht : RatOk t 10000000) : Ret Tryz.prog 56 [rD r, rD t] (· = rD (rq (rv r + rv t))) := by
  have tr := ref03_Take r ⟨hr.wm, hr.wd, by have := hr.lm; omega, by have := hr.ld; omega⟩
  have tk := ref03_Take t ⟨ht.wm, ht.wd, by have := ht.lm; omega, by have := ht.ld; omega⟩
  have or := okQ_rv hr (by decide)
  have ot := okQ_rv ht (by decide)
  generalize rv r = x at *
  generalize rv t = y at *
  have dx := ref03_Den x (or.mono (by decide))
  have dy := ref03_Den y (ot.mono (by decide))
  obtain ⟨x1, x2⟩ := or
  obtain ⟨y1, y2⟩ := ot
  have m1 := ref02_MulZ x.num y.den (by omega) (by rw [Int.natAbs_natCast]; omega)
  have m2 := ref02_MulZ y.num x.den (by omega) (by rw [Int.natAbs_natCast]; omega)
  have m3 := ref02_MulZ x.den y.den (by rw [Int.natAbs_natCast]; omega) (by rw [Int.natAbs_natCast]; omega)
  have l1 := ln_mul x.num.natAbs y.den
  have l2 := ln_mul y.num.natAbs x.den
  have l3 := ln_mul x.den y.den
  simp only [ln] at l1 l2 l3
  have e1 : (x.num * (y.den : Int)).natAbs = x.num.natAbs * y.den := by rw [Int.natAbs_mul, Int.natAbs_natCast]
  have e2 : (y.num * (x.den : Int)).natAbs = y.num.natAbs * x.den := by rw [Int.natAbs_mul, Int.natAbs_natCast]
  have e3 : ((x.den : Int) * (y.den : Int)).natAbs = x.den * y.den := by rw [Int.natAbs_mul, Int.natAbs_natCast, Int.natAbs_natCast]
  have a1 := ref02_AddZ (x.num * y.den) (y.num * x.den) (by rw [e1]; omega) (by rw [e2]; omega)
  have l4 := ln_mono (Int.natAbs_add_le (x.num * y.den) (y.num * x.den))
  have l5 := ln_add (x.num * (y.den : Int)).natAbs (y.num * (x.den : Int)).natAbs
  simp only [ln] at l4 l5
  rw [e1, e2] at l4 l5
  have o := ref03_over (x.num * y.den + y.num * x.den) (x.den * y.den) (by have := x.den_nz; have := y.den_nz; simp; omega) (by omega) (by rw [e3]; omega)
  rw [show Rat.divInt (x.num * y.den + y.num * x.den) ((x.den : Int) * y.den) = x + y by rw [Rat.add_def', ← Rat.divInt_ofNat]; simp] at o
  refine ret_of_awp tab Tryz.func56 rfl rfl (Nat.le_of_ble_eq_true rfl) (fun w0 F0 => ?_)
  repeat' (first | refine wG ?_ | refine wC tr ?_ | refine wC tk ?_ | refine wC dx ?_ | refine wC dy ?_ | refine wC m1 ?_ | refine wC m2 ?_ | refine wC m3 ?_ | refine wC a1 ?_ | refine wC o ?_ | refine rg 1 3 ?_ | refine rg 2 14 ?_ | refine wS ?_ ?_ <;> intro _ | refine finG ?_)
  rfl
theorem ref03_Mul (r t : R3) (hr : RatOk r 10000000) (ht : RatOk t 10000000) : Ret Tryz.prog 41 [rD r, rD t] (· = rD (rq (rv r * rv t))) := by
  have tr := ref03_Take r ⟨hr.wm, hr.wd, by have := hr.lm; omega, by have := hr.ld; omega⟩
  have tk := ref03_Take t ⟨ht.wm, ht.wd, by have := ht.lm; omega, by have := ht.ld; omega⟩
  have or := okQ_rv hr (by decide)
  have ot := okQ_rv ht (by decide)
  generalize rv r = x at *
  generalize rv t = y at *
  have dx := ref03_Den x (or.mono (by decide))
  have dy := ref03_Den y (ot.mono (by decide))
  obtain ⟨x1, x2⟩ := or
  obtain ⟨y1, y2⟩ := ot
  have m1 := ref02_MulZ x.num y.num (by omega) (by omega)
  have m3 := ref02_MulZ x.den y.den (by rw [Int.natAbs_natCast]; omega) (by rw [Int.natAbs_natCast]; omega)
  have l1 := ln_mul x.num.natAbs y.num.natAbs
  have l3 := ln_mul x.den y.den
  simp only [ln] at l1 l3
  have e1 : (x.num * y.num).natAbs = x.num.natAbs * y.num.natAbs := Int.natAbs_mul _ _
  have e3 : ((x.den : Int) * (y.den : Int)).natAbs = x.den * y.den := by rw [Int.natAbs_mul, Int.natAbs_natCast, Int.natAbs_natCast]
  have o := ref03_over (x.num * y.num) (x.den * y.den) (by have := x.den_nz; have := y.den_nz; simp; omega) (by rw [e1]; omega) (by rw [e3]; omega)
  rw [show Rat.divInt (x.num * y.num) ((x.den : Int) * y.den) = x * y by rw [Rat.mul_def', ← Rat.divInt_ofNat]; simp] at o
  refine ret_of_awp tab Tryz.func41 rfl rfl (Nat.le_of_ble_eq_true rfl) (fun w0 F0 => ?_)
  repeat' (first | refine wG ?_ | refine wC tr ?_ | refine wC tk ?_ | refine wC dx ?_ | refine wC dy ?_ | refine wC m1 ?_ | refine wC m3 ?_ | refine wC o ?_ | refine rg 1 3 ?_ | refine rg 2 8 ?_ | refine wS ?_ ?_ <;> intro _ | refine finG ?_)
  rfl
theorem ref03_Quo (r t : R3) (hr : RatOk r 10000000) (ht : RatOk t 10000000) (h0 : rv t ≠ 0) : Ret Tryz.prog 126 [rD r, rD t] (· = rD (rq (rv r / rv t))) := by
  have tr := ref03_Take r ⟨hr.wm, hr.wd, by have := hr.lm; omega, by have := hr.ld; omega⟩
  have tk := ref03_Take t ⟨ht.wm, ht.wd, by have := ht.lm; omega, by have := ht.ld; omega⟩
  have or := okQ_rv hr (by decide)
  have ot := okQ_rv ht (by decide)
  generalize rv r = x at *
  generalize rv t = y at *
  have dx := ref03_Den x (or.mono (by decide))
  have dy := ref03_Den y (ot.mono (by decide))
  obtain ⟨x1, x2⟩ := or
  obtain ⟨y1, y2⟩ := ot
  have hy : y.num ≠ 0 := mt Rat.num_eq_zero.1 h0
  have m1 := ref02_MulZ x.num y.den (by omega) (by rw [Int.natAbs_natCast]; omega)
  have m3 := ref02_MulZ x.den y.num (by rw [Int.natAbs_natCast]; omega) (by omega)
  have l1 := ln_mul x.num.natAbs y.den
  have l3 := ln_mul x.den y.num.natAbs
  simp only [ln] at l1 l3
  have e1 : (x.num * (y.den : Int)).natAbs = x.num.natAbs * y.den := by rw [Int.natAbs_mul, Int.natAbs_natCast]
  have e3 : ((x.den : Int) * y.num).natAbs = x.den * y.num.natAbs := by rw [Int.natAbs_mul, Int.natAbs_natCast]
  have o := ref03_over (x.num * y.den) (x.den * y.num) (by have := x.den_nz; exact Int.mul_ne_zero (by omega) hy) (by rw [e1]; omega) (by rw [e3]; omega)
  rw [show Rat.divInt (x.num * y.den) ((x.den : Int) * y.num) = x / y by
    rw [Rat.div_def]
    conv => rhs; rw [← Rat.num_divInt_den x, ← Rat.num_divInt_den y]
    rw [Rat.inv_divInt, Rat.divInt_mul_divInt]] at o
  refine ret_of_awp tab Tryz.func126 rfl rfl (Nat.le_of_ble_eq_true rfl) (fun w0 F0 => ?_)
  repeat' (first | refine wG ?_ | refine wC tr ?_ | refine wC tk ?_ | refine wC dx ?_ | refine wC dy ?_ | refine wC m1 ?_ | refine wC m3 ?_ | refine wC o ?_ | refine rg 1 3 ?_ | refine rg 2 9 ?_ | refine wS ?_ ?_ <;> intro _ | refine finG ?_)
  rfl
theorem ref03_Sign (r : R3) (hr : RatOk r 10000000) : Ret Tryz.prog 50 [rD r] (· = .int .i64 (rv r).num.sign) := by
  have tr := ref03_Take r ⟨hr.wm, hr.wd, by have := hr.lm; omega, by have := hr.ld; omega⟩
  have or := okQ_rv hr (by decide)
  generalize rv r = x at *
  have hs := ref02_SignZ x.num (by have := or.1; omega)
  refine ret_of_awp tab Tryz.func50 rfl rfl (Nat.le_of_ble_eq_true rfl) (fun w0 F0 => ?_)
  repeat' (first | refine wG ?_ | refine wC tr ?_ | refine wC hs ?_ | refine wS ?_ ?_ <;> intro _ | refine finG ?_)
  rfl
theorem ref03_Neg (r : R3) (hr : RatOk r 10000000) : Ret Tryz.prog 85 [rD r] (· = rD (rq (-rv r))) := by
  have tr := ref03_Take r ⟨hr.wm, hr.wd, by have := hr.lm; omega, by have := hr.ld; omega⟩
  have or := okQ_rv hr (by decide)
  generalize rv r = x at *
  have hs := ref02_NegZ x.num (by have := or.1; omega)
  have e : rq (-x) = (decide (-x.num < 0), limbs (-x.num).natAbs, dL x.den) := rfl
  rw [e]
  refine ret_of_awp tab Tryz.func85 rfl rfl (Nat.le_of_ble_eq_true rfl) (fun w0 F0 => ?_)
  repeat' (first | refine wG ?_ | refine wC tr ?_ | refine wC hs ?_ | refine rg 2 5 ?_ | refine wS ?_ ?_ <;> intro _ | refine finG ?_)
  rfl
theorem ok_rq {q : Rat} {k : Nat} (h : okQ k q) : RatOk (rq q) k := by
  refine ⟨(wf_rq q).1, (wf_rq q).2, h.1, ?_⟩
  show (dL q.den).length < k
  unfold dL; split
  · exact Nat.lt_of_le_of_lt (Nat.zero_le _) h.1
  · exact h.2
theorem ref03_MulQ (x y : Rat) (hx : okQ 10000000 x) (hy : okQ 10000000 y) : Ret Tryz.prog 41 [rD (rq x), rD (rq y)] (· = rD (rq (x * y))) := by
  have := ref03_Mul (rq x) (rq y) (ok_rq hx) (ok_rq hy)
  rw [rv_rq, rv_rq] at this; exact this
theorem ref03_SignQ (x : Rat) (hx : okQ 10000000 x) : Ret Tryz.prog 50 [rD (rq x)] (· = .int .i64 x.num.sign) := by
  have := ref03_Sign (rq x) (ok_rq hx)
  rw [rv_rq] at this; exact this
theorem ref03_QuoQ (x y : Rat) (hx : okQ 10000000 x) (hy : okQ 10000000 y) (h0 : y ≠ 0) : Ret Tryz.prog 126 [rD (rq x), rD (rq y)] (· = rD (rq (x / y))) := by
  have := ref03_Quo (rq x) (rq y) (ok_rq hx) (ok_rq hy) (by rw [rv_rq]; exact h0)
  rw [rv_rq, rv_rq] at this; exact this
end Go.Proofs.YtoppaphffnojdaaGreat

set_option maxHeartbeats 8000000
namespace Go.Proofs.YtoppaphffnojdaaGreat
open Go.Vw
attribute [local irreducible] awp awpL awpR

theorem rational_one : Ret Tryz.prog 116 [] (· = u32s [1]) := by
  refine ret_of_awp tab Tryz.func116 rfl rfl (Nat.le_of_ble_eq_true rfl) (fun w0 F0 => ?_)
  repeat' (first | refine wG ?_ | refine wS ?_ ?_ <;> intro _ | refine finG ?_)
  rfl
theorem nv_one : nv [1] = 1 := by decide
theorem natural_CompareOne (d : List Nat) (wd : WF d) (hl : d.length < 10000000000) : Ret Tryz.prog 118 [u32s d, u32s [1]] (· = .int .i64 (cmpN (nv d) 1)) := by
  have := natural_Compare d [1] wd (by intro x hx; simp at hx; subst hx; decide) hl (by decide)
  rw [nv_one] at this
  exact this
theorem rational_Valid (r : R3) (h : RatOk r 100000000) : Ret Tryz.prog 112 [rD r] (· = .bool (validR r)) := by
  obtain ⟨n, m, d⟩ := r
  obtain ⟨wm, wd, lm, ld⟩ := h
  simp only at wm wd lm ld
  have hi := integer_Valid n m (by omega)
  have hd := natural_Valid d (by omega)
  have h1 := rational_one
  have hc := natural_CompareOne d wd (by omega)
  unfold validR
  cases hvi : validI n m with
  | false =>
    rw [hvi] at hi
    refine ret_of_awp tab Tryz.func112 rfl rfl (Nat.le_of_ble_eq_true rfl) (fun w0 F0 => ?_)
    repeat' (first | refine wG ?_ | refine wC hi ?_ | refine rg 5 9 ?_ | refine wS ?_ ?_ <;> intro _ | refine finG ?_)
    rfl
  | true =>
    rw [hvi] at hi
    cases hvd : valid d with
    | false =>
      rw [hvd] at hd
      refine ret_of_awp tab Tryz.func112 rfl rfl (Nat.le_of_ble_eq_true rfl) (fun w0 F0 => ?_)
      repeat' (first | refine wG ?_ | refine wC hi ?_ | refine wC hd ?_ | refine rg 5 9 ?_ | refine wS ?_ ?_ <;> intro _ | refine finG ?_)
      rfl
    | true =>
      rw [hvd] at hd
      have hm : valid m = true := by unfold validI at hvi; simp at hvi; exact hvi.1
      have em := limbs_nv wm hm
      have ed := limbs_nv wd hvd
      have hg := natural_GcdN (nv m) (nv d) (by rw [em]; exact lm) (by rw [ed]; exact ld)
      have lg : (limbs (Nat.gcd (nv m) (nv d))).length < 10000000000 := by
        by_cases h0 : nv m = 0
        · rw [h0, Nat.gcd_zero_left, ed]; omega
        · have := limbs_len_mono (Nat.gcd_le_left (nv d) (Nat.pos_of_ne_zero h0)); rw [em] at this; omega
      have hc2 := natural_CompareOne (limbs (Nat.gcd (nv m) (nv d))) (wf_limbs _) lg
      rw [nv_limbs] at hc2
      rw [em, ed] at hg
      have z1 := cmpN_zero (nv d) 1
      have z2 := cmpN_zero (Nat.gcd (nv m) (nv d)) 1
      have e1 : d = [1] ↔ nv d = 1 := ⟨fun e => by rw [e]; exact nv_one, fun e => by rw [← ed, e, limbs_one]⟩
      have e2 : limbs (Nat.gcd (nv m) (nv d)) = [1] ↔ Nat.gcd (nv m) (nv d) = 1 := ⟨fun e => limbs_inj (e.trans limbs_one.symm), fun e => by rw [e, limbs_one]⟩
      have e3 : d = [] ↔ d.length = 0 := List.length_eq_zero_iff.symm
      have e4 : m = [] ↔ m.length = 0 := List.length_eq_zero_iff.symm
      rw [show decide (d = [1]) = decide (cmpN (nv d) 1 = 0) from decide_eq_decide.2 (e1.trans z1.symm), show decide (d = []) = decide (d.length = 0) from decide_eq_decide.2 e3, show decide (limbs (Nat.gcd (nv m) (nv d)) = [1]) = decide (cmpN (Nat.gcd (nv m) (nv d)) 1 = 0) from decide_eq_decide.2 (e2.trans z2.symm), show decide (m ≠ []) = decide (m.length ≠ 0) from decide_eq_decide.2 (not_congr e4)]
      have e5 : d.length = 0 → cmpN (nv d) 1 ≠ 0 := fun h => by
        have : nv d = 0 := by rw [e3.2 h]; rfl
        rw [ne_eq, z1]; omega
      clear e1 e2 e3 e4 em ed z1 z2
      generalize cmpN (nv d) 1 = c1 at *
      generalize cmpN (Nat.gcd (nv m) (nv d)) 1 = c2 at *
      refine ret_of_awp tab Tryz.func112 rfl rfl (Nat.le_of_ble_eq_true rfl) (fun w0 F0 => ?_)
      repeat' (first | refine wG ?_ | refine wC hi ?_ | refine wC hd ?_ | refine wC h1 ?_ | refine wC hc ?_ | refine wC hg ?_ | refine wC hc2 ?_ | refine rg 5 9 ?_ | refine wS ?_ ?_ <;> intro _ | refine finG ?_)
      · rename_i x
        have x : d.length = 0 := Int.ofNat_eq_zero.1 x
        simp [x, e5 x]
      · rename_i x y
        have x := mt Int.ofNat_eq_zero.2 x
        have y := Int.ofNat_eq_zero.1 y
        simp [show ¬ d.length = 0 from x, show m.length = 0 from y]
      · rename_i x y z
        simp [z]
      · rename_i x y z
        have x := mt Int.ofNat_eq_zero.2 x
        have y := mt Int.ofNat_eq_zero.2 y
        simp [show ¬ d.length = 0 from x, show ¬ m.length = 0 from y, z]
theorem rational_value (r : R3) (h : RatOk r 100000000) : Ret Tryz.prog 71 [rD r] (· = rD (rq (rv r))) := by
  have hv := rational_Valid r h
  have e := rq_rv (r := r)
  have e0 := rv_invalid (r := r)
  cases hr : validR r with
  | false =>
    rw [hr] at hv
    rw [e0 hr, rq_zero]
    refine ret_of_awp tab Tryz.func71 rfl rfl (Nat.le_of_ble_eq_true rfl) (fun w0 F0 => ?_)
    repeat' (first | refine wG ?_ | refine wC hv ?_ | refine wS ?_ ?_ <;> intro _ | (show retPost _ _ _ _ _; first | refine finF true rfl rfl sc ?_ | refine finF false rfl rfl sc ?_ | refine finC false rfl rfl sc sc ?_ | refine finN rfl rfl sc ?_ | refine finL true rfl rfl sc rfl (LeR.cons rfl leL LeR.nil) ?_ | refine finA true rfl rfl sc ?_ | refine finA false rfl rfl sc ?_ | refine finE true rfl rfl sc ?_ | refine finE false rfl rfl sc ?_))
    exact leL
  | true =>
    rw [hr] at hv
    rw [e hr h.wm h.wd]
    refine ret_of_awp tab Tryz.func71 rfl rfl (Nat.le_of_ble_eq_true rfl) (fun w0 F0 => ?_)
    repeat' (first | refine wG ?_ | refine wC hv ?_ | refine wS ?_ ?_ <;> intro _ | refine finG ?_)
    rfl
theorem rational_den (q : Rat) (h : okQ 100000000 q) : Ret Tryz.prog 73 [rD (rq q)] (· = u32s (limbs q.den)) := by
  have h1 := rational_one
  by_cases hq : q.den = 1
  · have e : rq q = (decide (q.num < 0), limbs q.num.natAbs, []) := by rw [rq, hq]; rfl
    rw [e, hq, limbs_one]
    refine ret_of_awp tab Tryz.func73 rfl rfl (Nat.le_of_ble_eq_true rfl) (fun w0 F0 => ?_)
    repeat' (first | refine wG ?_ | refine wC h1 ?_ | refine wS ?_ ?_ <;> intro _ | refine finG ?_)
    rfl
  · have e : rq q = (decide (q.num < 0), limbs q.num.natAbs, limbs q.den) := by rw [rq, dL, if_neg hq]
    have l0 : (limbs q.den).length ≠ 0 := fun e => q.den_nz (limbs_eq_nil.1 (List.length_eq_zero_iff.1 e))
    rw [e]
    show Ret _ _ [.agg [.bool (decide (q.num < 0)), u32s (limbs q.num.natAbs), u32s (limbs q.den)]] _
    refine ret_of_awp tab Tryz.func73 rfl rfl (Nat.le_of_ble_eq_true rfl) (fun w0 F0 => ?_)
    repeat' (first | refine wG ?_ | refine wS ?_ ?_ <;> intro _ | refine finG ?_)
    rfl
theorem lowest_parts (z : Int) (d : Nat) (hd : d ≠ 0) : rq (Rat.divInt z d) = (decide (z < 0), limbs (z.natAbs / Nat.gcd z.natAbs d), dL (d / Nat.gcd z.natAbs d)) := by
  have hg : 0 < Nat.gcd z.natAbs d := Nat.gcd_pos_of_pos_right _ (by omega)
  rw [divInt_parts z d (by omega)]
  have e1 : (Int.gcd z d : Nat) = Nat.gcd z.natAbs d := by unfold Int.gcd; rw [Int.natAbs_natCast]
  rw [e1]
  generalize hgg : Nat.gcd z.natAbs d = g at *
  have hdv : (g : Int) ∣ z := by rw [← Int.natAbs_dvd_natAbs, Int.natAbs_natCast, ← hgg]; exact Nat.gcd_dvd_left _ _
  obtain ⟨k, rfl⟩ := hdv
  have hgi : (0 : Int) < g := by omega
  rw [Int.mul_ediv_cancel_left _ (by omega), Int.natAbs_mul, Int.natAbs_natCast, Nat.mul_div_cancel_left _ hg]
  have e2 : ((d : Int) / (g : Int)).natAbs = d / g := by rw [← Int.natCast_ediv, Int.natAbs_natCast]
  rw [e2]
  congr 1
  refine decide_eq_decide.2 ?_
  constructor
  · intro h; exact Int.mul_neg_of_pos_of_neg hgi h
  · intro h
    exact Classical.byContradiction fun hn => by
      have := Int.mul_nonneg (Int.le_of_lt hgi) (show 0 ≤ k by omega)
      omega
theorem rational_lowest (z : Int) (d : Nat) (hd : d ≠ 0) (lz : (limbs z.natAbs).length < 100000000) (ld : (limbs d).length < 100000000) : Ret Tryz.prog 75 [zD z, u32s (limbs d)] (· = rD (rq (Rat.divInt z d))) := by
  have h1 := rational_one
  have hgp : 0 < Nat.gcd z.natAbs d := Nat.gcd_pos_of_pos_right _ (by omega)
  have hg := natural_GcdN z.natAbs d lz ld
  have hgl := len_bound (Nat.le_of_dvd (by omega) (Nat.gcd_dvd_right z.natAbs d)) ld
  rw [lowest_parts z d hd]
  show Ret _ _ _ (· = .agg [.bool (decide (z < 0)), u32s (limbs (z.natAbs / Nat.gcd z.natAbs d)), u32s (dL (d / Nat.gcd z.natAbs d))])
  have h2 := natural_DivN z.natAbs (Nat.gcd z.natAbs d) (by omega) (by omega) (by omega)
  have h3 := natural_DivN d (Nat.gcd z.natAbs d) (by omega) (by omega) (by omega)
  have hq := len_bound (Nat.div_le_self d (Nat.gcd z.natAbs d)) ld
  have hc := natural_CompareOne (limbs (d / Nat.gcd z.natAbs d)) (wf_limbs _) (by omega)
  rw [nv_limbs] at hc
  have hz := cmpN_zero (d / Nat.gcd z.natAbs d) 1
  clear hgp
  generalize z.natAbs / Nat.gcd z.natAbs d = p at *
  generalize d / Nat.gcd z.natAbs d = q at *
  generalize Nat.gcd z.natAbs d = g at *
  unfold dL
  by_cases hq1 : q = 1
  · rw [if_pos hq1]
    rw [hz.2 hq1] at hc
    refine ret_of_awp tab Tryz.func75 rfl rfl (Nat.le_of_ble_eq_true rfl) (fun w0 F0 => ?_)
    repeat' (first | refine wG ?_ | refine wC h1 ?_ | refine wC hg ?_ | refine wC h2 ?_ | refine wC h3 ?_ | refine wC hc ?_ | refine wS ?_ ?_ <;> intro _ | (show retPost _ _ _ _ _; first | refine finF true rfl rfl sc ?_ | refine finF false rfl rfl sc ?_ | refine finC false rfl rfl sc sc ?_ | refine finN rfl rfl sc ?_ | refine finL true rfl rfl sc rfl (LeR.cons rfl leL LeR.nil) ?_ | refine finA true rfl rfl sc ?_ | refine finA false rfl rfl sc ?_ | refine finE true rfl rfl sc ?_ | refine finE false rfl rfl sc ?_))
    exact leL
  · rw [if_neg hq1]
    have hcz := mt hz.1 hq1
    generalize cmpN q 1 = c at *
    refine ret_of_awp tab Tryz.func75 rfl rfl (Nat.le_of_ble_eq_true rfl) (fun w0 F0 => ?_)
    repeat' (first | refine wG ?_ | refine wC h1 ?_ | refine wC hg ?_ | refine wC h2 ?_ | refine wC h3 ?_ | refine wC hc ?_ | refine wS ?_ ?_ <;> intro _ | refine finG ?_)
    rfl
end Go.Proofs.YtoppaphffnojdaaGreat

/-
  Rational numbers: comparison, whole numbers, bounds. Conditions: as each says.
-/
namespace Go.Vw
theorem RatOk.up {r : R3} {k l : Nat} (h : RatOk r k) (hl : k ≤ l) : RatOk r l := ⟨h.wm, h.wd, Nat.lt_of_lt_of_le h.lm hl, Nat.lt_of_lt_of_le h.ld hl⟩
def cmpQ (x y : Rat) : Int := if x < y then -1 else if y < x then 1 else 0
theorem cmpQ_eq (x y : Rat) : cmpQ x y = if x.num * y.den < y.num * x.den then -1 else if y.num * x.den < x.num * y.den then 1 else 0 := by
  unfold cmpQ
  simp only [Rat.lt_iff]
theorem okQ.dl {q : Rat} {k : Nat} (h : okQ k q) : (dL q.den).length < k := by
  unfold dL; split
  · exact Nat.lt_of_le_of_lt (Nat.zero_le _) h.1
  · exact h.2
theorem dL_nil {d : Nat} (h0 : d ≠ 0) : (dL d).length = 0 ↔ d = 1 := by
  unfold dL
  split
  · rename_i h; simp [h]
  · rename_i h
    simp only [h, iff_false]
    exact fun e => h0 (limbs_eq_nil.1 (List.length_eq_zero_iff.1 e))
theorem int_of_den {x : Rat} (h : x.den = 1) : x = (x.num : Rat) := by
  apply Rat.ext
  · rfl
  · rw [h]; rfl
theorem divInt_abs (a b : Int) : Rat.divInt (if b < 0 then -a else a) (b.natAbs : Int) = Rat.divInt a b := by
  split
  · rename_i h
    rw [← Rat.neg_divInt_neg, Int.neg_neg]
    congr 1; omega
  · congr 1; omega
theorem divInt_div (x y : Rat) : Rat.divInt (x.num * y.den) (y.num * x.den) = x / y := by
  rw [Rat.div_def]
  conv => rhs; rw [← Rat.num_divInt_den x, ← Rat.num_divInt_den y]
  rw [Rat.inv_divInt, Rat.divInt_mul_divInt, Int.mul_comm y.num]
end Go.Vw

set_option maxHeartbeats 8000000
namespace Go.Proofs.YtoppaphffnojdaaGreat
open Go.Vw
attribute [local irreducible] awp awpL awpR

theorem rational_times (z : Int) (n : Nat) (hz : (limbs z.natAbs).length < 100000000) (hn : (limbs n).length < 100000000) : Ret Tryz.prog 105 [zD z, u32s (limbs n)] (· = zD (z * n)) := by
  have hm := integer_MulZ z n (by omega) (by rw [Int.natAbs_natCast]; omega)
  rw [zD_nat] at hm
  refine ret_of_awp tab Tryz.func105 rfl rfl (Nat.le_of_ble_eq_true rfl) (fun w0 F0 => ?_)
  repeat' (first | refine wG ?_ | refine wC hm ?_ | refine wS ?_ ?_ <;> intro _ | (show retPost _ _ _ _ _; first | refine finF true rfl rfl sc ?_ | refine finF false rfl rfl sc ?_ | refine finC false rfl rfl sc sc ?_ | refine finN rfl rfl sc ?_ | refine finL true rfl rfl sc rfl (LeR.cons rfl leL LeR.nil) ?_ | refine finA true rfl rfl sc ?_ | refine finA false rfl rfl sc ?_ | refine finE true rfl rfl sc ?_ | refine finE false rfl rfl sc ?_))
  exact leL
theorem rational_Compare (r t : R3) (hr : RatOk r 10000000) (ht : RatOk t 10000000) : Ret Tryz.prog 65 [rD r, rD t] (· = .int .i64 (cmpQ (rv r) (rv t))) := by
  have tr := rational_value r (hr.up (by decide))
  have tk := rational_value t (ht.up (by decide))
  have or := okQ_rv hr (by decide)
  have ot := okQ_rv ht (by decide)
  generalize rv r = x at *
  generalize rv t = y at *
  have dx := rational_den x (or.mono (by decide))
  have dy := rational_den y (ot.mono (by decide))
  obtain ⟨x1, x2⟩ := or
  obtain ⟨y1, y2⟩ := ot
  have m1 := rational_times x.num y.den (by omega) (by omega)
  have m2 := rational_times y.num x.den (by omega) (by omega)
  have l1 := ln_mul x.num.natAbs y.den
  have l2 := ln_mul y.num.natAbs x.den
  simp only [ln] at l1 l2
  have e1 : (x.num * (y.den : Int)).natAbs = x.num.natAbs * y.den := by rw [Int.natAbs_mul, Int.natAbs_natCast]
  have e2 : (y.num * (x.den : Int)).natAbs = y.num.natAbs * x.den := by rw [Int.natAbs_mul, Int.natAbs_natCast]
  have hc := integer_CompareZ (x.num * y.den) (y.num * x.den) (by rw [e1]; omega) (by rw [e2]; omega)
  rw [cmpQ_eq]
  refine ret_of_awp tab Tryz.func65 rfl rfl (Nat.le_of_ble_eq_true rfl) (fun w0 F0 => ?_)
  repeat' (first | refine wG ?_ | refine wC tr ?_ | refine wC tk ?_ | refine wC dx ?_ | refine wC dy ?_ | refine wC m1 ?_ | refine wC m2 ?_ | refine wC hc ?_ | refine rg 1 3 ?_ | refine rg 2 9 ?_ | refine wS ?_ ?_ <;> intro _ | refine finG ?_)
  rfl
theorem natural_copyD (d : Nat) (h : (dL d).length < 100000000) : Ret Tryz.prog 109 [u32s (dL d), u32s []] (· = u32s (dL d)) := by
  unfold dL at *
  split
  · have := natural_AddN 0 0 (by rw [limbs_zero]; simp) (by rw [limbs_zero]; simp)
    rw [Nat.add_zero, limbs_zero] at this
    exact this
  · rename_i h1
    rw [if_neg h1] at h
    have := natural_AddN d 0 (by omega) (by rw [limbs_zero]; simp)
    rw [Nat.add_zero, limbs_zero] at this
    exact this
theorem rational_Neg (r : R3) (hr : RatOk r 10000000) : Ret Tryz.prog 68 [rD r] (· = rD (rq (-rv r))) := by
  have tr := rational_value r (hr.up (by decide))
  have or := okQ_rv hr (by decide)
  generalize rv r = x at *
  have hs := integer_NegZ x.num (by have := or.1; omega)
  have hd := natural_copyD x.den (by have := or.dl; omega)
  have e : rq (-x) = (decide (-x.num < 0), limbs (-x.num).natAbs, dL x.den) := rfl
  rw [e]
  refine ret_of_awp tab Tryz.func68 rfl rfl (Nat.le_of_ble_eq_true rfl) (fun w0 F0 => ?_)
  repeat' (first | refine wG ?_ | refine wC tr ?_ | refine wC hs ?_ | refine wC hd ?_ | refine rg 2 5 ?_ | refine wS ?_ ?_ <;> intro _ | refine finG ?_)
  rfl
theorem rational_Add (r t : R3) (hr : RatOk r 10000000) (ht : RatOk t 10000000) : Ret Tryz.prog 67 [rD r, rD t] (· = rD (rq (rv r + rv t))) := by
  have tr := rational_value r (hr.up (by decide))
  have tk := rational_value t (ht.up (by decide))
  have or := okQ_rv hr (by decide)
  have ot := okQ_rv ht (by decide)
  generalize rv r = x at *
  generalize rv t = y at *
  have dx := rational_den x (or.mono (by decide))
  have dy := rational_den y (ot.mono (by decide))
  have nx := dL_nil x.den_nz
  have ny := dL_nil y.den_nz
  obtain ⟨x1, x2⟩ := or
  obtain ⟨y1, y2⟩ := ot
  by_cases hh : x.den = 1 ∧ y.den = 1
  · have a0 := integer_AddZ x.num y.num (by omega) (by omega)
    have e : rq (x + y) = (decide (x.num + y.num < 0), limbs (x.num + y.num).natAbs, []) := by
      have hx : x = (x.num : Rat) := int_of_den hh.1
      have hy : y = (y.num : Rat) := int_of_den hh.2
      have hs : x + y = ((x.num + y.num : Int) : Rat) := by
        conv => lhs; rw [hx, hy]
        rw [Rat.intCast_add]
      rw [hs]; rfl
    have ex : rq x = (decide (x.num < 0), limbs x.num.natAbs, []) := by rw [rq, hh.1]; rfl
    have ey : rq y = (decide (y.num < 0), limbs y.num.natAbs, []) := by rw [rq, hh.2]; rfl
    rw [ex] at tr
    rw [ey] at tk
    rw [e]
    refine ret_of_awp tab Tryz.func67 rfl rfl (Nat.le_of_ble_eq_true rfl) (fun w0 F0 => ?_)
    repeat' (first | refine wG ?_ | refine wC tr ?_ | refine wC tk ?_ | refine wC a0 ?_ | refine rg 1 3 ?_ | refine rg 4 14 ?_ | refine wS ?_ ?_ <;> intro _ | (show retPost _ _ _ _ _; first | refine finF true rfl rfl sc ?_ | refine finF false rfl rfl sc ?_ | refine finC false rfl rfl sc sc ?_ | refine finN rfl rfl sc ?_ | refine finL true rfl rfl sc rfl (LeR.cons rfl leL LeR.nil) ?_ | refine finA true rfl rfl sc ?_ | refine finA false rfl rfl sc ?_ | refine finE true rfl rfl sc ?_ | refine finE false rfl rfl sc ?_))
    exact leL
  · have m1 := rational_times x.num y.den (by omega) (by omega)
    have m2 := rational_times y.num x.den (by omega) (by omega)
    have m3 := natural_MulN x.den y.den (by omega) (by omega)
    have l1 := ln_mul x.num.natAbs y.den
    have l2 := ln_mul y.num.natAbs x.den
    have l3 := ln_mul x.den y.den
    simp only [ln] at l1 l2 l3
    have e1 : (x.num * (y.den : Int)).natAbs = x.num.natAbs * y.den := by rw [Int.natAbs_mul, Int.natAbs_natCast]
    have e2 : (y.num * (x.den : Int)).natAbs = y.num.natAbs * x.den := by rw [Int.natAbs_mul, Int.natAbs_natCast]
    have a1 := integer_AddZ (x.num * y.den) (y.num * x.den) (by rw [e1]; omega) (by rw [e2]; omega)
    have l4 := ln_mono (Int.natAbs_add_le (x.num * y.den) (y.num * x.den))
    have l5 := ln_add (x.num * (y.den : Int)).natAbs (y.num * (x.den : Int)).natAbs
    simp only [ln] at l4 l5
    rw [e1, e2] at l4 l5
    have o := rational_lowest (x.num * y.den + y.num * x.den) (x.den * y.den) (Nat.mul_ne_zero x.den_nz y.den_nz) (by omega) (by omega)
    rw [show Rat.divInt (x.num * y.den + y.num * x.den) ((x.den * y.den : Nat) : Int) = x + y by rw [Rat.add_def', ← Rat.divInt_ofNat]] at o
    have hl : (rq x).2.2.length ≠ 0 ∨ (rq y).2.2.length ≠ 0 := by show (dL x.den).length ≠ 0 ∨ (dL y.den).length ≠ 0; rw [ne_eq, nx, ne_eq, ny]; omega
    clear l1 l2 l3 l4 l5 e1 e2
    refine ret_of_awp tab Tryz.func67 rfl rfl (Nat.le_of_ble_eq_true rfl) (fun w0 F0 => ?_)
    repeat' (first | refine wG ?_ | refine wC tr ?_ | refine wC tk ?_ | refine wC dx ?_ | refine wC dy ?_ | refine wC m1 ?_ | refine wC m2 ?_ | refine wC m3 ?_ | refine wC a1 ?_ | refine wC o ?_ | refine rg 1 3 ?_ | refine rg 4 14 ?_ | refine wS ?_ ?_ <;> intro _ | refine finG ?_)
    all_goals rfl
theorem rational_Mul (r t : R3) (hr : RatOk r 10000000) (ht : RatOk t 10000000) : Ret Tryz.prog 36 [rD r, rD t] (· = rD (rq (rv r * rv t))) := by
  have tr := rational_value r (hr.up (by decide))
  have tk := rational_value t (ht.up (by decide))
  have or := okQ_rv hr (by decide)
  have ot := okQ_rv ht (by decide)
  generalize rv r = x at *
  generalize rv t = y at *
  have dx := rational_den x (or.mono (by decide))
  have dy := rational_den y (ot.mono (by decide))
  have nx := dL_nil x.den_nz
  have ny := dL_nil y.den_nz
  obtain ⟨x1, x2⟩ := or
  obtain ⟨y1, y2⟩ := ot
  have a0 := integer_MulZ x.num y.num (by omega) (by omega)
  by_cases hh : x.den = 1 ∧ y.den = 1
  · have e : rq (x * y) = (decide (x.num * y.num < 0), limbs (x.num * y.num).natAbs, []) := by
      have hx : x = (x.num : Rat) := int_of_den hh.1
      have hy : y = (y.num : Rat) := int_of_den hh.2
      have hs : x * y = ((x.num * y.num : Int) : Rat) := by
        conv => lhs; rw [hx, hy]
        rw [Rat.intCast_mul]
      rw [hs]; rfl
    have ex : rq x = (decide (x.num < 0), limbs x.num.natAbs, []) := by rw [rq, hh.1]; rfl
    have ey : rq y = (decide (y.num < 0), limbs y.num.natAbs, []) := by rw [rq, hh.2]; rfl
    rw [ex] at tr
    rw [ey] at tk
    rw [e]
    refine ret_of_awp tab Tryz.func36 rfl rfl (Nat.le_of_ble_eq_true rfl) (fun w0 F0 => ?_)
    repeat' (first | refine wG ?_ | refine wC tr ?_ | refine wC tk ?_ | refine wC a0 ?_ | refine rg 1 3 ?_ | refine rg 4 8 ?_ | refine wS ?_ ?_ <;> intro _ | (show retPost _ _ _ _ _; first | refine finF true rfl rfl sc ?_ | refine finF false rfl rfl sc ?_ | refine finC false rfl rfl sc sc ?_ | refine finN rfl rfl sc ?_ | refine finL true rfl rfl sc rfl (LeR.cons rfl leL LeR.nil) ?_ | refine finA true rfl rfl sc ?_ | refine finA false rfl rfl sc ?_ | refine finE true rfl rfl sc ?_ | refine finE false rfl rfl sc ?_))
    exact leL
  · have m3 := natural_MulN x.den y.den (by omega) (by omega)
    have l1 := ln_mul x.num.natAbs y.num.natAbs
    have l3 := ln_mul x.den y.den
    simp only [ln] at l1 l3
    have e1 : (x.num * y.num).natAbs = x.num.natAbs * y.num.natAbs := Int.natAbs_mul _ _
    have o := rational_lowest (x.num * y.num) (x.den * y.den) (Nat.mul_ne_zero x.den_nz y.den_nz) (by rw [e1]; omega) (by omega)
    rw [show Rat.divInt (x.num * y.num) ((x.den * y.den : Nat) : Int) = x * y by rw [Rat.mul_def', ← Rat.divInt_ofNat]] at o
    have hl : (rq x).2.2.length ≠ 0 ∨ (rq y).2.2.length ≠ 0 := by show (dL x.den).length ≠ 0 ∨ (dL y.den).length ≠ 0; rw [ne_eq, nx, ne_eq, ny]; omega
    clear l1 l3 e1
    refine ret_of_awp tab Tryz.func36 rfl rfl (Nat.le_of_ble_eq_true rfl) (fun w0 F0 => ?_)
    repeat' (first | refine wG ?_ | refine wC tr ?_ | refine wC tk ?_ | refine wC dx ?_ | refine wC dy ?_ | refine wC m3 ?_ | refine wC a0 ?_ | refine wC o ?_ | refine rg 1 3 ?_ | refine rg 4 8 ?_ | refine wS ?_ ?_ <;> intro _ | refine finG ?_)
    all_goals rfl
theorem rational_Sub (r t : R3) (hr : RatOk r 10000000) (ht : RatOk t 10000000) : Ret Tryz.prog 33 [rD r, rD t] (· = rD (rq (rv r - rv t))) := by
  have hn := rational_Neg t ht
  have or := okQ_rv ht (by decide)
  have on : okQ 10000000 (-rv t) := ⟨by rw [Rat.neg_num, Int.natAbs_neg]; exact or.1, by rw [Rat.neg_den]; exact or.2⟩
  have ha := rational_Add r (rq (-rv t)) hr (ok_rq on)
  rw [rv_rq, ← Rat.sub_eq_add_neg] at ha
  refine ret_of_awp tab Tryz.func33 rfl rfl (Nat.le_of_ble_eq_true rfl) (fun w0 F0 => ?_)
  repeat' (first | refine wG ?_ | refine wC hn ?_ | refine wC ha ?_ | refine rg 1 3 ?_ | refine wS ?_ ?_ <;> intro _ | refine finG ?_)
  rfl
theorem rational_Make (a b : Int) (ha : (limbs a.natAbs).length < 100000000) (hb : (limbs b.natAbs).length < 100000000) : Ret Tryz.prog 106 [zD a, zD b] (· = if b = 0 then .tup [rD r0, .int .i64 5] else .tup [rD (rq (Rat.divInt a b)), .int .i64 0]) := by
  have hs := integer_SignZ b (by omega)
  by_cases h0 : b = 0
  · rw [if_pos h0]
    rw [h0] at hs ⊢
    have : (0 : Int).sign = 0 := rfl
    rw [this] at hs
    refine ret_of_awp tab Tryz.func106 rfl rfl (Nat.le_of_ble_eq_true rfl) (fun w0 F0 => ?_)
    repeat' (first | refine wG ?_ | refine wC hs ?_ | refine rg 5 5 ?_ | refine wS ?_ ?_ <;> intro _ | refine finTG ?_)
    exact leT
  · rw [if_neg h0]
    have hab := divInt_abs a b
    by_cases hn : b < 0
    · rw [if_pos hn] at hab
      rw [Int.sign_eq_neg_one_of_neg hn] at hs
      have hne := integer_NegZ a (by omega)
      have had := integer_AddZ (-a) 0 (by rw [Int.natAbs_neg]; omega) (by show (limbs 0).length < _; rw [limbs_zero]; simp)
      rw [zD_zero, Int.add_zero] at had
      have hlo := rational_lowest (-a) b.natAbs (by omega) (by rw [Int.natAbs_neg]; exact ha) hb
      rw [hab] at hlo
      refine ret_of_awp tab Tryz.func106 rfl rfl (Nat.le_of_ble_eq_true rfl) (fun w0 F0 => ?_)
      repeat' (first | refine wG ?_ | refine wC hs ?_ | refine wC hne ?_ | refine wC had ?_ | refine wC hlo ?_ | refine rg 5 5 ?_ | refine wS ?_ ?_ <;> intro _ | refine finTG ?_)
      exact leT
    · rw [if_neg hn] at hab
      rw [Int.sign_eq_one_of_pos (by omega)] at hs
      have had := integer_AddZ a 0 (by omega) (by show (limbs 0).length < _; rw [limbs_zero]; simp)
      rw [zD_zero, Int.add_zero] at had
      have hlo := rational_lowest a b.natAbs (by omega) ha hb
      rw [hab] at hlo
      refine ret_of_awp tab Tryz.func106 rfl rfl (Nat.le_of_ble_eq_true rfl) (fun w0 F0 => ?_)
      repeat' (first | refine wG ?_ | refine wC hs ?_ | refine wC had ?_ | refine wC hlo ?_ | refine rg 5 5 ?_ | refine wS ?_ ?_ <;> intro _ | refine finTG ?_)
      exact leT
theorem rational_Div (r t : R3) (hr : RatOk r 10000000) (ht : RatOk t 10000000) : Ret Tryz.prog 66 [rD r, rD t] (· = if rv t = 0 then .tup [rD r0, .int .i64 5] else .tup [rD (rq (rv r / rv t)), .int .i64 0]) := by
  have tr := rational_value r (hr.up (by decide))
  have tk := rational_value t (ht.up (by decide))
  have or := okQ_rv hr (by decide)
  have ot := okQ_rv ht (by decide)
  generalize rv r = x at *
  generalize rv t = y at *
  have dx := rational_den x (or.mono (by decide))
  have dy := rational_den y (ot.mono (by decide))
  obtain ⟨x1, x2⟩ := or
  obtain ⟨y1, y2⟩ := ot
  have m1 := rational_times x.num y.den (by omega) (by omega)
  have m2 := rational_times y.num x.den (by omega) (by omega)
  have l1 := ln_mul x.num.natAbs y.den
  have l2 := ln_mul y.num.natAbs x.den
  simp only [ln] at l1 l2
  have e1 : (x.num * (y.den : Int)).natAbs = x.num.natAbs * y.den := by rw [Int.natAbs_mul, Int.natAbs_natCast]
  have e2 : (y.num * (x.den : Int)).natAbs = y.num.natAbs * x.den := by rw [Int.natAbs_mul, Int.natAbs_natCast]
  have hm := rational_Make (x.num * y.den) (y.num * x.den) (by rw [e1]; omega) (by rw [e2]; omega)
  have hd : (x.den : Int) ≠ 0 := by have := x.den_nz; omega
  have h0 : y.num * x.den = 0 ↔ y = 0 := by
    rw [Int.mul_eq_zero, Rat.num_eq_zero]; exact ⟨fun h => h.elim id fun h => absurd h hd, .inl⟩
  by_cases hy : y = 0
  · rw [if_pos hy]
    rw [if_pos (h0.2 hy)] at hm
    refine ret_of_awp tab Tryz.func66 rfl rfl (Nat.le_of_ble_eq_true rfl) (fun w0 F0 => ?_)
    repeat' (first | refine wG ?_ | refine wC tr ?_ | refine wC tk ?_ | refine wC dx ?_ | refine wC dy ?_ | refine wC m1 ?_ | refine wC m2 ?_ | refine wC hm ?_ | refine rg 1 3 ?_ | refine rg 2 13 ?_ | refine wS ?_ ?_ <;> intro _ | refine finTG ?_)
    exact leT
  · rw [if_neg hy]
    rw [if_neg (mt h0.1 hy)] at hm
    rw [divInt_div] at hm
    refine ret_of_awp tab Tryz.func66 rfl rfl (Nat.le_of_ble_eq_true rfl) (fun w0 F0 => ?_)
    repeat' (first | refine wG ?_ | refine wC tr ?_ | refine wC tk ?_ | refine wC dx ?_ | refine wC dy ?_ | refine wC m1 ?_ | refine wC m2 ?_ | refine wC hm ?_ | refine rg 1 3 ?_ | refine rg 2 13 ?_ | refine wS ?_ ?_ <;> intro _ | refine finTG ?_)
    exact leT
end Go.Proofs.YtoppaphffnojdaaGreat

/-
  Rational numbers: sizes of results, order, whole parts. Conditions: as each says.
-/
namespace Go.Vw
theorem divInt_le (a b : Int) (hb : b ≠ 0) : (Rat.divInt a b).num.natAbs ≤ a.natAbs ∧ (Rat.divInt a b).den ≤ b.natAbs := by
  rw [Rat.num_divInt, Rat.den_divInt, if_neg hb]
  refine ⟨?_, Nat.div_le_self _ _⟩
  have hg : 0 < Int.gcd b a := Int.gcd_pos_of_ne_zero_left _ hb
  have hd : ((Int.gcd b a : Nat) : Int) ∣ b.sign * a := Int.dvd_trans (Int.gcd_dvd_right b a) (Int.dvd_mul_left _ _)
  rw [Int.natAbs_ediv_of_dvd hd, Int.natAbs_mul]
  have h1 : b.sign.natAbs = 1 := by rw [Int.natAbs_sign, if_neg hb]
  rw [h1, Nat.one_mul]
  exact Nat.div_le_self _ _
theorem okQ_divInt {a b : Int} {k : Nat} (hb : b ≠ 0) (ha : (limbs a.natAbs).length < k) (hb2 : (limbs b.natAbs).length < k) : okQ k (Rat.divInt a b) :=
  ⟨Nat.lt_of_le_of_lt (limbs_len_mono (divInt_le a b hb).1) ha, Nat.lt_of_le_of_lt (limbs_len_mono (divInt_le a b hb).2) hb2⟩
theorem den_ne (x : Rat) : (x.den : Int) ≠ 0 := by have := x.den_nz; omega
theorem add_divInt (x y : Rat) : x + y = Rat.divInt (x.num * y.den + y.num * x.den) ((x.den * y.den : Nat) : Int) := by rw [Rat.add_def', ← Rat.divInt_ofNat]
theorem mul_divInt (x y : Rat) : x * y = Rat.divInt (x.num * y.num) ((x.den * y.den : Nat) : Int) := by rw [Rat.mul_def', ← Rat.divInt_ofNat]
theorem okQ.add {x y : Rat} {k l : Nat} (hx : okQ k x) (hy : okQ l y) : okQ (k + l) (x + y) := by
  rw [add_divInt]
  have l1 := ln_mul x.num.natAbs y.den
  have l2 := ln_mul y.num.natAbs x.den
  have l3 := ln_mul x.den y.den
  have e1 : (x.num * (y.den : Int)).natAbs = x.num.natAbs * y.den := by rw [Int.natAbs_mul, Int.natAbs_natCast]
  have e2 : (y.num * (x.den : Int)).natAbs = y.num.natAbs * x.den := by rw [Int.natAbs_mul, Int.natAbs_natCast]
  have l4 := ln_mono (Int.natAbs_add_le (x.num * y.den) (y.num * x.den))
  obtain ⟨x1, x2⟩ := hx
  obtain ⟨y1, y2⟩ := hy
  simp only [ln] at l1 l2 l3 l4
  have l5 := ln_add1 (m := (x.num * (y.den : Int)).natAbs) (n := (y.num * (x.den : Int)).natAbs) (k := k + l - 2) (by simp only [ln]; rw [e1]; omega) (by simp only [ln]; rw [e2]; omega)
  simp only [ln] at l5
  refine okQ_divInt (by have := Nat.mul_ne_zero x.den_nz y.den_nz; omega) (by omega) (by rw [Int.natAbs_natCast]; omega)
theorem okQ.mul {x y : Rat} {k l : Nat} (hx : okQ k x) (hy : okQ l y) : okQ (k + l) (x * y) := by
  rw [mul_divInt]
  have l1 := ln_mul x.num.natAbs y.num.natAbs
  have l3 := ln_mul x.den y.den
  have e1 : (x.num * y.num).natAbs = x.num.natAbs * y.num.natAbs := Int.natAbs_mul _ _
  obtain ⟨x1, x2⟩ := hx
  obtain ⟨y1, y2⟩ := hy
  simp only [ln] at l1 l3
  refine okQ_divInt (by have := Nat.mul_ne_zero x.den_nz y.den_nz; omega) (by rw [e1]; omega) (by rw [Int.natAbs_natCast]; omega)
theorem okQ.neg {x : Rat} {k : Nat} (hx : okQ k x) : okQ k (-x) := ⟨by rw [Rat.neg_num, Int.natAbs_neg]; exact hx.1, by rw [Rat.neg_den]; exact hx.2⟩
theorem okQ.sub {x y : Rat} {k l : Nat} (hx : okQ k x) (hy : okQ l y) : okQ (k + l) (x - y) := by rw [Rat.sub_eq_add_neg]; exact hx.add hy.neg
theorem okQ.div {x y : Rat} {k l : Nat} (hx : okQ k x) (hy : okQ l y) (h0 : y ≠ 0) : okQ (k + l) (x / y) := by
  rw [← divInt_div]
  have l1 := ln_mul x.num.natAbs y.den
  have l2 := ln_mul y.num.natAbs x.den
  have e1 : (x.num * (y.den : Int)).natAbs = x.num.natAbs * y.den := by rw [Int.natAbs_mul, Int.natAbs_natCast]
  have e2 : (y.num * (x.den : Int)).natAbs = y.num.natAbs * x.den := by rw [Int.natAbs_mul, Int.natAbs_natCast]
  obtain ⟨x1, x2⟩ := hx
  obtain ⟨y1, y2⟩ := hy
  simp only [ln] at l1 l2
  refine okQ_divInt (Int.mul_ne_zero (mt Rat.num_eq_zero.1 h0) (den_ne x)) (by rw [e1]; omega) (by rw [e2]; omega)
theorem num_lt0 {q : Rat} : q.num < 0 ↔ q < 0 := by
  rw [← Rat.not_le, ← Rat.num_nonneg]; omega
theorem num_gt0 {q : Rat} : 0 < q.num ↔ 0 < q := by
  have h1 := Rat.num_nonneg (q := q)
  have h2 := Rat.num_eq_zero (q := q)
  constructor
  · intro h
    have := h1.1 (by omega)
    have : q ≠ 0 := fun e => by have := h2.2 e; omega
    grind
  · intro h
    have := h1.2 (by grind)
    have : q.num ≠ 0 := fun e => by have := h2.1 e; grind
    omega
theorem sign_sub (x y : Rat) : (x - y).num.sign = cmpQ x y := by
  unfold cmpQ
  by_cases h : x < y
  · rw [if_pos h]
    refine Int.sign_eq_neg_one_of_neg ?_
    have : x - y < 0 := by grind
    exact num_lt0.2 this
  · rw [if_neg h]
    by_cases h2 : y < x
    · rw [if_pos h2]
      refine Int.sign_eq_one_of_pos ?_
      have : 0 < x - y := by grind
      exact num_gt0.2 this
    · rw [if_neg h2]
      have : x - y = 0 := by grind
      rw [this]; rfl
theorem cmpQ_neg (x y : Rat) : cmpQ x y < 0 ↔ x < y := by
  unfold cmpQ
  constructor
  · intro h; split at h
    · assumption
    · split at h <;> omega
  · intro h; rw [if_pos h]; decide
theorem cmpQ_pos (x y : Rat) : 0 < cmpQ x y ↔ y < x := by
  unfold cmpQ
  constructor
  · intro h; split at h
    · omega
    · split at h
      · assumption
      · omega
  · intro h; rw [if_neg (by grind), if_pos h]; decide
theorem cmpQ_zero (x y : Rat) : cmpQ x y = 0 ↔ x = y := by
  unfold cmpQ
  constructor
  · intro h; split at h
    · omega
    · split at h
      · omega
      · grind
  · intro h; subst h; rw [if_neg (by grind), if_neg (by grind)]
theorem cmpQ_range (x y : Rat) : -1 ≤ cmpQ x y ∧ cmpQ x y ≤ 1 := by unfold cmpQ; split <;> (try split) <;> omega
end Go.Vw

set_option maxHeartbeats 8000000
namespace Go.Proofs.YtoppaphffnojdaaGreat
open Go.Vw
attribute [local irreducible] awp awpL awpR

theorem rational_Floor (r : R3) (hr : RatOk r 10000000) : Ret Tryz.prog 35 [rD r] (· = zD (rv r).floor) := by
  have tr := rational_value r (hr.up (by decide))
  have or := okQ_rv hr (by decide)
  generalize rv r = x at *
  have dx := rational_den x (or.mono (by decide))
  obtain ⟨x1, x2⟩ := or
  have hd := integer_DivZ x.num x.den (by omega) (by rw [Int.natAbs_natCast]; omega) (den_ne x)
  rw [← Rat.floor_def, zD_nat] at hd
  refine ret_of_awp tab Tryz.func35 rfl rfl (Nat.le_of_ble_eq_true rfl) (fun w0 F0 => ?_)
  repeat' (first | refine wG ?_ | refine wC tr ?_ | refine wC dx ?_ | refine wC hd ?_ | refine rgK 2 14 [3, 4] ?_ | refine wS ?_ ?_ <;> intro _ | refine finG ?_)
  rfl
theorem ref03_Floor (r : R3) (hr : RatOk r 10000000) : Ret Tryz.prog 39 [rD r] (· = zD (rv r).floor) := by
  have tr := ref03_Take r (hr.up (by decide))
  have or := okQ_rv hr (by decide)
  generalize rv r = x at *
  have dx := ref03_Den x (or.mono (by decide))
  obtain ⟨x1, x2⟩ := or
  have hd := ref02_DivZ x.num x.den (by omega) (by rw [Int.natAbs_natCast]; omega) (den_ne x)
  rw [← Rat.floor_def] at hd
  refine ret_of_awp tab Tryz.func39 rfl rfl (Nat.le_of_ble_eq_true rfl) (fun w0 F0 => ?_)
  repeat' (first | refine wG ?_ | refine wC tr ?_ | refine wC dx ?_ | refine wC hd ?_ | refine rgK 2 13 [3, 4] ?_ | refine wS ?_ ?_ <;> intro _ | refine finG ?_)
  rfl
theorem ref03_Sub (r t : R3) (hr : RatOk r 10000000) (ht : RatOk t 10000000) : Ret Tryz.prog 42 [rD r, rD t] (· = rD (rq (rv r - rv t))) := by
  have hn := ref03_Neg t ht
  have or := okQ_rv ht (by decide)
  have ha := ref03_Add r (rq (-rv t)) hr (ok_rq or.neg)
  rw [rv_rq, ← Rat.sub_eq_add_neg] at ha
  refine ret_of_awp tab Tryz.func42 rfl rfl (Nat.le_of_ble_eq_true rfl) (fun w0 F0 => ?_)
  repeat' (first | refine wG ?_ | refine wC hn ?_ | refine wC ha ?_ | refine rg 1 3 ?_ | refine wS ?_ ?_ <;> intro _ | refine finG ?_)
  rfl
theorem ref03_Compare (r t : R3) (hr : RatOk r 1000000) (ht : RatOk t 1000000) : Ret Tryz.prog 20 [rD r, rD t] (· = .int .i64 (cmpQ (rv r) (rv t))) := by
  have hs := ref03_Sub r t (hr.up (by decide)) (ht.up (by decide))
  have or := okQ_rv hr (by decide)
  have ot := okQ_rv ht (by decide)
  have hg := ref03_SignQ (rv r - rv t) ((or.sub ot).mono (by decide))
  rw [sign_sub] at hg
  refine ret_of_awp tab Tryz.func20 rfl rfl (Nat.le_of_ble_eq_true rfl) (fun w0 F0 => ?_)
  repeat' (first | refine wG ?_ | refine wC hs ?_ | refine wC hg ?_ | refine wS ?_ ?_ <;> intro _ | refine finG ?_)
  rfl
theorem ref03_Fraction (a b : Int) (ha : -9223372036854775808 ≤ a) (ha2 : a < 9223372036854775808) (hb : -9223372036854775808 ≤ b) (hb2 : b < 9223372036854775808) (h0 : b ≠ 0) : Ret Tryz.prog 27 [.int .i64 a, .int .i64 b] (· = rD (rq (Rat.divInt a b))) := by
  have h1 := ref02_FromInt a ha ha2
  have h2 := ref02_FromInt b hb hb2
  have l1 := u64_len (v := a.natAbs) (by omega)
  have l2 := u64_len (v := b.natAbs) (by omega)
  have o := ref03_over a b h0 (by omega) (by omega)
  refine ret_of_awp tab Tryz.func27 rfl rfl (Nat.le_of_ble_eq_true rfl) (fun w0 F0 => ?_)
  repeat' (first | refine wG ?_ | refine wC h1 ?_ | refine wC h2 ?_ | refine wC o ?_ | refine wS ?_ ?_ <;> intro _ | refine finG ?_)
  rfl
end Go.Proofs.YtoppaphffnojdaaGreat

/-
  Matrices of rational numbers: the elimination as the specification has it, where each pivot stands in its place. Conditions: as each says.
-/
namespace Go.Vw
@[reducible] def qC (q : Rat) : List D := rC (rq q)
@[reducible] def qD (q : Rat) : D := rD (rq q)
@[reducible] def qsD (l : List Rat) : D := .sl 3 qC 0 l
@[reducible] def eQ (l : List Rat) : List D := [qsD l]
@[reducible] def qssD (l : List (List Rat)) : D := .sl 1 eQ [] l

def timesQ (l : List Rat) (c : Rat) : List Rat := l.map (· * c)
def plusQ (a b : List Rat) : List Rat := List.zipWith (· + ·) a b
def at2 (m : List (List Rat)) (i j : Nat) : Rat := (m.getD i []).getD j 0
def scaleQ (m : List (List Rat)) (j : Nat) : List (List Rat) := m.set j (timesQ (m.getD j []) (1 / at2 m j j))
def elimRow (m : List (List Rat)) (j i : Nat) : List Rat := if i = j then m.getD j [] else plusQ (m.getD i []) (timesQ (m.getD j []) (-(at2 m i j)))
def elimI (m : List (List Rat)) (j i : Nat) : List (List Rat) := (List.range i).map (elimRow m j) ++ m.drop i
def redQ (m : List (List Rat)) (j : Nat) : List (List Rat) := elimI (scaleQ m j) j m.length

def smallQ (q : Rat) : Prop := q.num.natAbs < 18446744073709551616 ∧ q.den < 18446744073709551616
theorem limbs_len2 {n : Nat} (h : n < 18446744073709551616) : (limbs n).length < 1000 := Nat.lt_of_le_of_lt (length_limbs_le (n := n) (k := 2) (by rw [B_val]; exact h)) (by decide)
theorem limbs_len4 {n : Nat} (h : n < 18446744073709551616 * 18446744073709551616) : (limbs n).length < 1000 := Nat.lt_of_le_of_lt (length_limbs_le (n := n) (k := 4) (by rw [B_val]; exact h)) (by decide)
theorem smallQ.ok {q : Rat} (h : smallQ q) : okQ 10000000 q := ⟨Nat.lt_trans (limbs_len2 h.1) (by decide), Nat.lt_trans (limbs_len2 h.2) (by decide)⟩
theorem smallQ.neg {q : Rat} (h : smallQ q) : smallQ (-q) := by unfold smallQ at *; rw [show (-q).num = -q.num from rfl, show (-q).den = q.den from rfl, Int.natAbs_neg]; exact h
theorem smallQ.one : smallQ 1 := by unfold smallQ; decide
theorem num_mul_le (x y : Rat) : (x * y).num.natAbs ≤ x.num.natAbs * y.num.natAbs ∧ (x * y).den ≤ x.den * y.den := by
  rw [Rat.num_mul, Rat.den_mul, ← Int.natAbs_mul]
  refine ⟨?_, Nat.div_le_self _ _⟩
  have hd : ((((x.num * y.num).natAbs.gcd (x.den * y.den) : Nat)) : Int) ∣ x.num * y.num := Int.ofNat_dvd_left.2 (Nat.gcd_dvd_left _ _)
  rw [Int.natAbs_ediv_of_dvd hd]
  exact Nat.div_le_self _ _
theorem smallQ.mul {x y : Rat} (hx : smallQ x) (hy : smallQ y) : okQ 10000000 (x * y) := by
  obtain ⟨h1, h2⟩ := num_mul_le x y
  exact ⟨Nat.lt_trans (limbs_len4 (Nat.lt_of_le_of_lt h1 (Nat.mul_lt_mul'' hx.1 hy.1))) (by decide), Nat.lt_trans (limbs_len4 (Nat.lt_of_le_of_lt h2 (Nat.mul_lt_mul'' hx.2 hy.2))) (by decide)⟩
structure GoodM (n : Nat) (m : List (List Rat)) : Prop where
  len : m.length = n
  row : ∀ i, i < n → (m.getD i []).length = n
  small : ∀ i, i < n → ∀ q ∈ m.getD i [], smallQ q
theorem GoodM.at2 {n : Nat} {m : List (List Rat)} (h : GoodM n m) {i j : Nat} (hi : i < n) (hj : j < n) : smallQ (at2 m i j) := by
  refine h.small i hi _ ?_
  unfold Vw.at2
  have hr := h.row i hi
  generalize m.getD i [] = r at *
  rw [List.getD_eq_getElem?_getD, List.getElem?_eq_getElem (by omega)]; exact List.getElem_mem _
def mAt (m : List (List Rat)) : Nat → List (List Rat)
  | 0 => m
  | j + 1 => redQ (mAt m j) j
def facAt (m : List (List Rat)) : Nat → Rat
  | 0 => 1
  | j + 1 => facAt m j * at2 (mAt m j) j j
structure RunOk (n : Nat) (m : List (List Rat)) : Prop where
  good : ∀ j, j ≤ n → GoodM n (mAt m j)
  piv : ∀ j, j < n → at2 (mAt m j) j j ≠ 0
  fac : ∀ j, j < n → smallQ (facAt m j)
  scaled : ∀ j, j < n → GoodM n (scaleQ (mAt m j) j)
end Go.Vw

/-
  Intervals of rational numbers: what the operations are, in plain terms. Conditions: as each says.
-/
namespace Go.Vw
abbrev I2 := Rat × Rat
@[reducible] def iD (a b : R3) : D := .agg [.bool a.1, u32s a.2.1, u32s a.2.2, .bool b.1, u32s b.2.1, u32s b.2.2]
@[reducible] def iQ (i : I2) : D := iD (rq i.1) (rq i.2)
def takeI (x y : Rat) : I2 := if y < x then (0, 0) else (x, y)
def okI (k : Nat) (i : I2) : Prop := okQ k i.1 ∧ okQ k i.2
def withinI (a b : I2) : Bool := decide (b.1 ≤ a.1) && decide (a.2 ≤ b.2)
theorem getD_ok {k : Nat} {l : List Rat} (h : ∀ q ∈ l, okQ k q) {i : Nat} (hi : i < l.length) : okQ k (l.getD i 0) := by
  have : l.getD i 0 = l[i] := by simp [List.getD_eq_getElem?_getD, hi]
  rw [this]; exact h _ (List.getElem_mem hi)
end Go.Vw

set_option maxHeartbeats 8000000
namespace Go.Proofs.YtoppaphffnojdaaGreat
open Go.Vw
attribute [local irreducible] awp awpL awpR

theorem rational_MulQ (x y : Rat) (hx : okQ 10000000 x) (hy : okQ 10000000 y) : Ret Tryz.prog 36 [qD x, qD y] (· = qD (x * y)) := by
  have := rational_Mul (rq x) (rq y) (ok_rq hx) (ok_rq hy)
  rw [rv_rq, rv_rq] at this
  exact this
theorem rational_DivQ (x y : Rat) (hx : okQ 10000000 x) (hy : okQ 10000000 y) : Ret Tryz.prog 66 [qD x, qD y] (· = if y = 0 then .tup [rD r0, .int .i64 5] else .tup [qD (x / y), .int .i64 0]) := by
  have := rational_Div (rq x) (rq y) (ok_rq hx) (ok_rq hy)
  rw [rv_rq, rv_rq] at this
  exact this
theorem rational_FloorQ (x : Rat) (hx : okQ 10000000 x) : Ret Tryz.prog 35 [qD x] (· = zD x.floor) := by
  have := rational_Floor (rq x) (ok_rq hx)
  rw [rv_rq] at this
  exact this
theorem ref03_FloorQ (x : Rat) (hx : okQ 10000000 x) : Ret Tryz.prog 39 [qD x] (· = zD x.floor) := by
  have := ref03_Floor (rq x) (ok_rq hx)
  rw [rv_rq] at this
  exact this
end Go.Proofs.YtoppaphffnojdaaGreat

/-
  What the matrices of the codings hold. Conditions: as each says.
-/
namespace Go.Vw
end Go.Vw

set_option maxHeartbeats 8000000
namespace Go.Proofs.YtoppaphffnojdaaGreat
open Go.Vw
attribute [local irreducible] awp awpL awpR

theorem rq_int (z : Int) : rq (z : Rat) = zR z := by
  unfold rq zR
  rw [Rat.num_intCast, Rat.den_intCast]
  rfl
end Go.Proofs.YtoppaphffnojdaaGreat

/-
  Lists of rational numbers in ascending order: by insertion in place, and by insertion into a new list. Conditions: as each says.
-/
namespace Go.Vw
def srt (l : List Rat) : List Rat := l.mergeSort fun a b => decide (a ≤ b)
def AscQ (l : List Rat) : Prop := l.Pairwise (· ≤ ·)
theorem srt_perm (l : List Rat) : (srt l).Perm l := List.mergeSort_perm _ _
theorem srt_asc (l : List Rat) : AscQ (srt l) := by
  have h := List.pairwise_mergeSort (le := fun a b : Rat => decide (a ≤ b)) (fun a b c h1 h2 => by
    simp only [decide_eq_true_eq] at *
    exact Rat.le_trans h1 h2) (fun a b => by
    rcases Rat.le_total (a := a) (b := b) with h | h <;> simp [h]) l
  exact List.Pairwise.imp (fun h => of_decide_eq_true h) h
theorem asc_unique {a b : List Rat} (ha : AscQ a) (hb : AscQ b) (h : a.Perm b) : a = b :=
  List.Perm.eq_of_pairwise (le := fun x y : Rat => x ≤ y) (fun x y _ _ h1 h2 => Rat.le_antisymm h1 h2) ha hb h
theorem srt_unique {a l : List Rat} (ha : AscQ a) (h : a.Perm l) : a = srt l := asc_unique ha (srt_asc l) (h.trans (srt_perm l).symm)
theorem srt_len (l : List Rat) : (srt l).length = l.length := (srt_perm l).length_eq
theorem asc_getD {l : List Rat} (h : AscQ l) {i j : Nat} (hij : i ≤ j) (hj : j < l.length) : l.getD i 0 ≤ l.getD j 0 := by
  rcases Nat.lt_or_eq_of_le hij with h1 | h1
  · have := List.pairwise_iff_getElem.1 h i j (by omega) hj h1
    simpa [List.getD_eq_getElem?_getD, show i < l.length by omega, hj] using this
  · subst h1; exact Rat.le_refl
end Go.Vw

/-
  Intervals of rational numbers: the two ways to the same results. Conditions: as each says.
-/
namespace Go.Vw
@[reducible] def iC (a b : R3) : List D := [.bool a.1, u32s a.2.1, u32s a.2.2, .bool b.1, u32s b.2.1, u32s b.2.2]
abbrev zR3 : List V := [.d (.bool false), .d .nils, .d .nils]
theorem rv_r0 : rv r0 = 0 := by rw [← rq_zero, rv_rq]
theorem ok_r0 {k : Nat} (h : 1 < k) : RatOk r0 k := by
  have h0 : (0 : Nat) < k := Nat.lt_of_succ_lt h
  exact ⟨by intro x hx; exact absurd hx (by simp [r0]), by intro x hx; exact absurd hx (by simp [r0]), by simpa [r0] using h0, by simpa [r0] using h0⟩
end Go.Vw

/-
  Intervals of rational numbers: what holds of the results of the operations. Conditions: as each says.
-/
namespace Go.Vw
def In (i : I2) (v : Rat) : Prop := i.1 ≤ v ∧ v ≤ i.2
theorem withinI_iff {i j : I2} : withinI i j = true ↔ j.1 ≤ i.1 ∧ i.2 ≤ j.2 := by unfold withinI; simp
theorem In.mono {i j : I2} {v : Rat} (h : withinI i j = true) (hv : In i v) : In j v := by
  have := withinI_iff.1 h
  exact ⟨Rat.le_trans this.1 hv.1, Rat.le_trans hv.2 this.2⟩
end Go.Vw

/-
  Square roots in intervals: what holds of the interval of a root. Conditions: as each says.
-/
namespace Go.Vw
theorem div_mul_cancel' {a b : Rat} (h : b ≠ 0) : a / b * b = a := by rw [Rat.div_def, Rat.mul_assoc, Rat.inv_mul_cancel b h, Rat.mul_one]
end Go.Vw

/-
  Intervals of rational numbers: how long the results are. Conditions: as each says.
-/
namespace Go.Vw
theorem okI.mono {k l : Nat} {i : I2} (h : okI k i) (hl : k ≤ l) : okI l i := ⟨h.1.mono hl, h.2.mono hl⟩
end Go.Vw

/-
  Medians and quantiles of rational numbers. Conditions: as each says.
-/
namespace Go.Vw
def medLo (l : List Rat) : Rat := (srt l).getD ((l.length + 1) / 2 - 1) 0
def medHi (l : List Rat) : Rat := (srt l).getD (l.length / 2) 0
def midQ (l : List Rat) : Rat := (medLo l + medHi l) / 2
def absQ (x : Rat) : Rat := if x < 0 then -x else x
def distQ (l : List Rat) (m : Rat) : List Rat := l.map fun x => absQ (x - m)
def qFirst (p : Rat) (n : Nat) : Int := if 0 < (p * (n : Int)).floor ∧ p * (n : Int) = ((p * (n : Int)).floor : Int) then (p * (n : Int)).floor - 1 else (p * (n : Int)).floor
def qLo (l : List Rat) (p : Rat) : Rat := (srt l).getD (min (qFirst p l.length) ((l.length : Int) - 1)).toNat 0
def qHi (l : List Rat) (p : Rat) : Rat := (srt l).getD (min (p * (l.length : Int)).floor ((l.length : Int) - 1)).toNat 0
theorem srt_ok {k : Nat} {l : List Rat} (h : ∀ q ∈ l, okQ k q) : ∀ q ∈ srt l, okQ k q := fun q hq => h q ((srt_perm l).subset hq)
end Go.Vw

/-
  Lists of rational numbers as arrays: how the library's laws of sorting speak of them. Conditions: as each says.
-/
namespace Go.Vw
open Go.Sort hiding swp
theorem getQ (d : Array Rat) (i : Nat) : d.toList.getD i 0 = d[i]! := by
  rw [List.getD_eq_getElem?_getD, Array.getElem?_toList]
  by_cases h : i < d.size
  · rw [getElem!_pos d i h, Array.getElem?_eq_getElem h]; rfl
  · rw [getElem!_neg d i h, Array.getElem?_eq_none (by omega)]; rfl
def AllOk (d : Array Rat) : Prop := ∀ q ∈ d.toList, okQ 1000 q
theorem AllOk.get {d : Array Rat} (h : AllOk d) {i : Nat} (hi : i < d.size) : okQ 1000 (d.toList.getD i 0) := getD_ok h (by simpa using hi)
theorem AllOk.iff {d : Array Rat} : AllOk d ↔ ∀ i, i < d.size → okQ 1000 d[i]! := by
  constructor
  · intro h i hi
    rw [← getQ]; exact h.get hi
  · intro h q hq
    obtain ⟨i, hi, rfl⟩ := List.getElem_of_mem hq
    have hi' : i < d.size := by simpa using hi
    have := h i hi'
    rw [getElem!_pos d i hi'] at this
    simpa using this
theorem AllOk.perm {d d' : Array Rat} (h : AllOk d) {a b : Nat} (hab : a ≤ b) (hb : b ≤ d.size) (hp : PermIn a b d d') : AllOk d' := by
  rw [AllOk.iff] at *
  rw [hp.1]
  intro i hi
  exact permIn_all d d' 0 d.size (fun q => okQ 1000 q) (Nat.le_refl _) (permIn_mono d d' a b 0 d.size (Nat.zero_le _) hb (Nat.le_refl _) hp) (fun i _ hi => h i hi) i (Nat.zero_le _) hi
theorem AllOk.swp {d : Array Rat} (h : AllOk d) {i j : Nat} (hi : i < d.size) (hj : j < d.size) : AllOk (Go.Sort.swp d i j) := h.perm (Nat.zero_le d.size) (Nat.le_refl _) (swp_permIn d 0 d.size i j (Nat.zero_le _) hi (Nat.zero_le _) hj (Nat.le_refl _))
end Go.Vw

/-
  A variable's data in another form; reading a literal as a list. Conditions: as each says.
-/
namespace Go.Vw
section
variable {X : Ctx} {all : Array Oper} {s : St} {o : Oper} {Q : Exit → St → Prop} {rest : List Oper} {d : Tmp} {α : Type} {en : α → List D} {z : α} {l : List α}
theorem e_litO {e : TypeId} {sz len : Nat} {rows : List (List D)} {dst : Option Tmp} {op : Op} {ty : TypeId} {pos : String} {after : Array Edge} {g : Option (Nat × Bool)} (hdst : dst = some d) (hg : gd all s ⟨dst, op, ty, pos, after, g⟩ = some true) (hd : dstOk X.N (some d) = true) (hK : X.K.contains d = false) (h : evalB X.T s op = some (e, sz, len, rows)) (hr : LeR sz rows en l) :
    E1 X all s ⟨dst, op, ty, pos, after, g⟩ ((s.new d (.data e sz en z l)).put (some d) (.own d 0 len e sz)) := by
  subst hdst
  intro io F a w hs K Q hQ
  have hw := gd_sound (fun t _ => hs.tm t) hg
  obtain ⟨h1, arr, h2, h3, h4, h5⟩ := evalB_sound (P := X.P) (ev := a.eval) X.ok ⟨some d, op, ty, pos, after, g⟩ (fun y _ => hs.opd y) h
  obtain ⟨r1, r2⟩ := hr.spec
  have hlra : LRA F w (fun j => arr[j]?) 0 sz en l := fun i b hi => by
    have hlt : i < rows.length := by have := (List.getElem?_eq_some_iff.1 hi).1; omega
    obtain ⟨q1, q2⟩ := r2 i _ b (List.getElem?_eq_getElem hlt) hi
    obtain ⟨p1, p2⟩ := h5 i _ (List.getElem?_eq_getElem hlt)
    exact ⟨q2.1 ▸ q1, by rw [Nat.zero_add]; exact q2.2 F w _ _ p2⟩
  have hnb := hs.newBlk d (notMem hK) e arr (.data e sz en z l) (.inl ⟨_, _, _, _, _, rfl, hlra⟩)
  refine opWp_value hw h2 (hQ _ F _ _ (hnb.put (dstOk_sound hd) ?_))
  simp only [VR]
  refine .inr ⟨w.heap.size, len, _, updio_same _ _ _, by rw [Nat.zero_mul], by omega, by unfold maxLen; omega, heap_alloc_new w _, by simp [h3], ?_⟩
  show 0 + len ≤ (s.new d _).ln d
  rw [show (s.new d (.data e sz en z l)).ln d = _ from ln_of withBlk_same]
  simp [Blk.ln]; omega
theorem stepLitO {e : TypeId} {sz len : Nat} {rows : List (List D)} (hdst : o.dst = some d) (h : evalB X.T s o.op = some (e, sz, len, rows)) (hg : gd all s o = some true) (hd : dstOk X.N (some d) = true) (hK : X.K.contains d = false) (hr : LeR sz rows en l) (r : awpL X all rest Q ((s.new d (.data e sz en z l)).put (some d) (.own d 0 len e sz))) : awpL X all (o :: rest) Q s := by
  obtain ⟨dst, op, ty, pos, after, g⟩ := o
  exact awpL_step (e_litO hdst hg hd hK h hr) r
end
end Go.Vw

set_option maxHeartbeats 8000000
namespace Go.Proofs.YtoppaphffnojdaaGreat
open Go.Vw
attribute [local irreducible] awp awpL awpR

abbrev ow (d : Array Rat) : V := .own 1000 0 d.size 27 3
end Go.Proofs.YtoppaphffnojdaaGreat

set_option maxHeartbeats 8000000
namespace Go.Proofs.YtoppaphffnojdaaGreat
open Go.Vw
attribute [local irreducible] awp awpL awpR

end Go.Proofs.YtoppaphffnojdaaGreat

set_option maxHeartbeats 8000000
namespace Go.Proofs.YtoppaphffnojdaaGreat
open Go.Vw
attribute [local irreducible] awp awpL awpR

end Go.Proofs.YtoppaphffnojdaaGreat

set_option maxHeartbeats 8000000
namespace Go.Proofs.YtoppaphffnojdaaGreat
open Go.Vw
attribute [local irreducible] awp awpL awpR

end Go.Proofs.YtoppaphffnojdaaGreat

set_option maxHeartbeats 8000000
namespace Go.Proofs.YtoppaphffnojdaaGreat
open Go.Vw
attribute [local irreducible] awp awpL awpR
end Go.Proofs.YtoppaphffnojdaaGreat

set_option maxHeartbeats 8000000
namespace Go.Proofs.YtoppaphffnojdaaGreat
open Go.Vw
attribute [local irreducible] awp awpL awpR

end Go.Proofs.YtoppaphffnojdaaGreat

set_option maxHeartbeats 16000000
namespace Go.Proofs.YtoppaphffnojdaaGreat
open Go.Vw
attribute [local irreducible] awp awpL awpR

end Go.Proofs.YtoppaphffnojdaaGreat

set_option maxHeartbeats 8000000
namespace Go.Proofs.YtoppaphffnojdaaGreat
open Go.Vw
attribute [local irreducible] awp awpL awpR

theorem tmodFact (k n : Int) (h : 0 < n) : -n < k.tmod n ∧ k.tmod n < n ∧ k % n = if k.tmod n < 0 then k.tmod n + n else k.tmod n := by
  have h1 := Int.tmod_lt_of_pos k h
  have h2 := Int.lt_tmod_of_pos k h
  have h3 := Int.emod_nonneg k (show n ≠ 0 by omega)
  have h4 := Int.emod_lt_of_pos k h
  have e1 := Int.mul_tdiv_add_tmod k n
  have e2 := Int.mul_ediv_add_emod k n
  refine ⟨h2, h1, ?_⟩
  have hd : n * (k.tdiv n - k / n) = k % n - k.tmod n := by rw [Int.mul_sub]; omega
  split
  · have hb : -(2 * n) < n * (k.tdiv n - k / n) ∧ n * (k.tdiv n - k / n) < 2 * n ∧ 0 < n * (k.tdiv n - k / n) := by omega
    have h5 : 0 < k.tdiv n - k / n := Int.pos_of_mul_pos_right hb.2.2 h
    have h6 : k.tdiv n - k / n < 2 := by
      rcases Int.lt_or_le (k.tdiv n - k / n) 2 with h7 | h7
      · exact h7
      · have := Int.mul_le_mul_of_nonneg_left h7 (Int.le_of_lt h); omega
    rw [show k.tdiv n - k / n = 1 by omega] at hd
    omega
  · have hb : -n < n * (k.tdiv n - k / n) ∧ n * (k.tdiv n - k / n) < n := by omega
    have h5 : -1 < k.tdiv n - k / n := by
      rcases Int.lt_or_le (-1) (k.tdiv n - k / n) with h7 | h7
      · exact h7
      · have := Int.mul_le_mul_of_nonneg_left h7 (Int.le_of_lt h); omega
    have h6 : k.tdiv n - k / n < 1 := by
      rcases Int.lt_or_le (k.tdiv n - k / n) 1 with h7 | h7
      · exact h7
      · have := Int.mul_le_mul_of_nonneg_left h7 (Int.le_of_lt h); omega
    rw [show k.tdiv n - k / n = 0 by omega] at hd
    omega
end Go.Proofs.YtoppaphffnojdaaGreat

set_option maxHeartbeats 4000000
namespace Go.Proofs.YtoppaphffnojdaaGreat
open Go.Vw
attribute [local irreducible] awp awpL awpR

@[reducible] def tp (l : List Int) (a : Nat) : Blk := .box 55 [.d (i64s l), .d (.int .i64 a)]
def I64 (l : List Int) : Prop := ∀ x ∈ l, -9223372036854775808 ≤ x ∧ x < 9223372036854775808
theorem I64.getD {l : List Int} (h : I64 l) (i : Nat) : -9223372036854775808 ≤ l.getD i 0 ∧ l.getD i 0 < 9223372036854775808 := by
  rw [List.getD_eq_getElem?_getD]
  by_cases hi : i < l.length
  · rw [List.getElem?_eq_getElem hi]; exact h _ (List.getElem_mem hi)
  · rw [List.getElem?_eq_none (by omega)]; decide
theorem world_Mod (k n : Int) (hk : -9223372036854775808 ≤ k) (hk' : k < 9223372036854775808) (h : 0 < n) (h' : n < 10000000) : Ret Tryz.prog 45 [.int .i64 k, .int .i64 n] (· = .int .i64 (k % n)) := by
  obtain ⟨t1, t2, t3⟩ := tmodFact k n h
  rw [t3]
  refine ret_of_awp tab Tryz.func45 rfl rfl (Nat.le_of_ble_eq_true rfl) (fun w0 F0 => ?_)
  repeat' (first | refine wG ?_ | refine wS ?_ ?_ <;> intro _ | refine finG ?_)
  · rename_i hc; rw [if_pos hc]
  · rename_i hc; rw [if_neg hc]
theorem world_Next (l : List Int) (a : Nat) (n : Int) (hl : l.length ≤ 400) (hx : I64 l) (ha : a ≤ l.length) (h1 : -9223372036854775808 ≤ n) (h2 : n < 10000000) : ∃ (r : Int) (b : Nat), 0 ≤ r ∧ (r < n ∨ r = 0) ∧ b ≤ l.length ∧ RetB Tryz.prog 18 [.ptr 1000 0, .d (.int .i64 n)] (lookB [(1000, tp l a)]) (.d (.int .i64 r)) (lookB [(1000, tp l b)]) := by
  by_cases h : n < 1 ∨ l.length ≤ a
  · refine ⟨0, a, by omega, by omega, ha, ?_⟩
    refine retB_of_awp tab [1000] Tryz.func18 rfl rfl rfl (Nat.le_of_ble_eq_true rfl) rfl ⟨Nat.le_refl _, trivial⟩ (fun w0 F0 A io0 => ?_)
    repeat' (first | refine wG ?_ | refine rg 1 12 ?_ | refine rg 4 12 ?_ | refine wS ?_ ?_ <;> intro _ | refine wB ?_ ?_)
    all_goals first | exact leVT | exact ⟨rfl, trivial⟩
  · have hg := hx.getD ((a : Int) + 1 - 1).toNat
    have m := world_Mod _ n hg.1 hg.2 (by omega) h2
    refine ⟨l.getD ((a : Int) + 1 - 1).toNat 0 % n, a + 1, Int.emod_nonneg _ (by omega), .inl (Int.emod_lt_of_pos _ (by omega)), by omega, ?_⟩
    refine retB_of_awp tab [1000] Tryz.func18 rfl rfl rfl (Nat.le_of_ble_eq_true rfl) rfl ⟨Nat.le_refl _, trivial⟩ (fun w0 F0 A io0 => ?_)
    repeat' (first | refine wG ?_ | refine wC m ?_ | refine rg 1 12 ?_ | refine rg 4 12 ?_ | refine wS ?_ ?_ <;> intro _ | refine wB ?_ ?_)
    all_goals first | exact leVT | exact ⟨rfl, trivial⟩
theorem world_Bool (l : List Int) (a : Nat) (n : Int) (hl : l.length ≤ 400) (hx : I64 l) (ha : a ≤ l.length) (h1 : -9223372036854775807 ≤ n) (h2 : n < 10000000) : ∃ (r : Bool) (b : Nat), b ≤ l.length ∧ RetB Tryz.prog 12 [.ptr 1000 0, .d (.int .i64 n)] (lookB [(1000, tp l a)]) (.d (.bool r)) (lookB [(1000, tp l b)]) := by
  obtain ⟨r, b, r1, r2, r3, hn⟩ := world_Next l a n hl hx ha (by omega) h2
  refine ⟨decide (r = n - 1), b, r3, ?_⟩
  refine retB_of_awp tab [1000] Tryz.func12 rfl rfl rfl (Nat.le_of_ble_eq_true rfl) rfl ⟨Nat.le_refl _, trivial⟩ (fun w0 F0 A io0 => ?_)
  repeat' (first | refine wG ?_ | refine wD [] hn ?_ | refine wS ?_ ?_ <;> intro _ | refine wB ?_ ?_)
  all_goals first | exact leVT | exact ⟨rfl, trivial⟩
theorem world_Pick (l : List Int) (a : Nat) (p : List Int) (hl : l.length ≤ 400) (hx : I64 l) (ha : a ≤ l.length) (h1 : 0 < p.length) (h2 : p.length < 10000000) : ∃ (r : Int) (b : Nat), r ∈ p ∧ b ≤ l.length ∧ RetB Tryz.prog 13 [.ptr 1000 0, .d (i64s p)] (lookB [(1000, tp l a)]) (.d (.int .i64 r)) (lookB [(1000, tp l b)]) := by
  obtain ⟨r, b, r1, r2, r3, hn⟩ := world_Next l a (p.length : Int) hl hx ha (by omega) (by omega)
  have hr : r.toNat < p.length := by omega
  refine ⟨p.getD r.toNat 0, b, ?_, r3, ?_⟩
  · rw [List.getD_eq_getElem?_getD, List.getElem?_eq_getElem hr]; exact List.getElem_mem hr
  refine retB_of_awp tab [1000] Tryz.func13 rfl rfl rfl (Nat.le_of_ble_eq_true rfl) rfl ⟨Nat.le_refl _, trivial⟩ (fun w0 F0 A io0 => ?_)
  repeat' (first | refine wG ?_ | refine wD [] hn ?_ | refine wS ?_ ?_ <;> intro _ | refine wB ?_ ?_)
  all_goals first | exact leVT | exact ⟨rfl, trivial⟩
theorem world_New (l : List Int) (hl : l.length ≤ 9223372036854775807) (hx : I64 l) : ∃ (m : List Int), m.length ≤ 400 ∧ I64 m ∧ RetB Tryz.prog 10 [.d (i64s l)] (lookB []) (.ptr 10 0) (lookB [(10, tp m 0)]) := by
  by_cases h : 400 < l.length
  · refine ⟨l.take 400, by simp; omega, fun x hm => hx x (List.mem_of_mem_take hm), ?_⟩
    refine retB_of_awp tab [] Tryz.func10 rfl rfl rfl (Nat.le_of_ble_eq_true rfl) rfl trivial (fun w0 F0 A io0 => ?_)
    repeat' (first | refine wG ?_ | refine wS ?_ ?_ <;> intro _ | refine wB ?_ ?_)
    all_goals first | exact leVT | exact ⟨rfl, trivial⟩
  · refine ⟨l, by omega, hx, ?_⟩
    refine retB_of_awp tab [] Tryz.func10 rfl rfl rfl (Nat.le_of_ble_eq_true rfl) rfl trivial (fun w0 F0 A io0 => ?_)
    repeat' (first | refine wG ?_ | refine wS ?_ ?_ <;> intro _ | refine wB ?_ ?_)
    all_goals first | exact leVT | exact ⟨rfl, trivial⟩
theorem ref03_FractionQ (a b : Int) (ha : -10000000 ≤ a) (ha2 : a < 10000000) (hb : 0 < b) (hb2 : b < 10000000) : Ret Tryz.prog 27 [.int .i64 a, .int .i64 b] (· = qD (Rat.divInt a b)) := ref03_Fraction a b (by omega) (by omega) (by omega) (by omega) (by omega)
theorem ok_fracW {a b : Int} (hb : b ≠ 0) (ha : a.natAbs < 18446744073709551616) (hb2 : b.natAbs < 18446744073709551616) : okQ 10 (Rat.divInt a b) :=
  okQ_divInt hb (Nat.lt_of_le_of_lt (u64_len ha) (by decide)) (Nat.lt_of_le_of_lt (u64_len hb2) (by decide))
theorem ref03_FromIntW (v : Int) (h1 : -9223372036854775808 ≤ v) (h2 : v < 9223372036854775808) : Ret Tryz.prog 17 [.int .i64 v] (· = qD (v : Rat)) := by
  have := ref03_FromInt v h1 h2
  rw [← rq_int] at this
  exact this
theorem ok_intW {v : Int} (h : v.natAbs < 18446744073709551616) : okQ 10 (v : Rat) := by
  refine ⟨?_, ?_⟩
  · rw [Rat.num_intCast]; exact Nat.lt_of_le_of_lt (u64_len h) (by decide)
  · rw [Rat.den_intCast, limbs_one]; decide
theorem world_Rat (l : List Int) (a : Nat) (hl : l.length ≤ 400) (hx : I64 l) (ha : a ≤ l.length) : ∃ (q : Rat) (b : Nat), okQ 10 q ∧ b ≤ l.length ∧ RetB Tryz.prog 26 [.ptr 1000 0] (lookB [(1000, tp l a)]) (.d (qD q)) (lookB [(1000, tp l b)]) := by
  obtain ⟨r, b, r1, r2, r3, h1⟩ := world_Next l a 8 hl hx ha (by decide) (by decide)
  by_cases c1 : r = 6
  · subst c1
    obtain ⟨s, c, s1, s2, s3, h2⟩ := world_Next l b 13 hl hx r3 (by decide) (by decide)
    obtain ⟨t, d, t1, t2, t3, h3⟩ := world_Next l c 6 hl hx s3 (by decide) (by decide)
    have f := ref03_FractionQ (s - 6) (1 + t) (by omega) (by omega) (by omega) (by omega)
    refine ⟨_, d, ok_fracW (a := s - 6) (b := 1 + t) (by omega) (by omega) (by omega), t3, ?_⟩
    refine retB_of_awp tab [1000] Tryz.func26 rfl rfl rfl (Nat.le_of_ble_eq_true rfl) rfl ⟨Nat.le_refl _, trivial⟩ (fun w0 F0 A io0 => ?_)
    repeat' (first | refine wG ?_ | refine wD [] h1 ?_ | refine wD [] h2 ?_ | refine wD [] h3 ?_ | refine wC f ?_ | refine wS ?_ ?_ <;> intro _ | refine wB ?_ ?_)
    all_goals first | exact leVT | exact ⟨rfl, trivial⟩
  by_cases c2 : r = 7
  · subst c2
    obtain ⟨s, c, s1, s2, s3, h2⟩ := world_Next l b 2001 hl hx r3 (by decide) (by decide)
    obtain ⟨t, d, t1, t3, h3⟩ := world_Pick l c [1, 1, 7] hl hx s3 (by decide) (by decide)
    have ht : 0 < t ∧ t < 8 := by simp at t1; omega
    have f := ref03_FractionQ (s - 1000) t (by omega) (by omega) (by omega) (by omega)
    refine ⟨_, d, ok_fracW (a := s - 1000) (b := t) (by omega) (by omega) (by omega), t3, ?_⟩
    refine retB_of_awp tab [1000] Tryz.func26 rfl rfl rfl (Nat.le_of_ble_eq_true rfl) rfl ⟨Nat.le_refl _, trivial⟩ (fun w0 F0 A io0 => ?_)
    repeat' (first | refine wG ?_ | refine wD [] h1 ?_ | refine wD [] h2 ?_ | refine wD [] h3 ?_ | refine wC f ?_ | refine wS ?_ ?_ <;> intro _ | refine wB ?_ ?_)
    all_goals first | exact leVT | exact ⟨rfl, trivial⟩
  · obtain ⟨s, c, s1, s2, s3, h2⟩ := world_Next l b 9 hl hx r3 (by decide) (by decide)
    have f := ref03_FromIntW (s - 4) (by omega) (by omega)
    refine ⟨_, c, ok_intW (v := s - 4) (by omega), s3, ?_⟩
    refine retB_of_awp tab [1000] Tryz.func26 rfl rfl rfl (Nat.le_of_ble_eq_true rfl) rfl ⟨Nat.le_refl _, trivial⟩ (fun w0 F0 A io0 => ?_)
    repeat' (first | refine wG ?_ | refine wD [] h1 ?_ | refine wD [] h2 ?_ | refine wC f ?_ | refine wS ?_ ?_ <;> intro _ | refine wB ?_ ?_)
    all_goals first | exact leVT | exact ⟨rfl, trivial⟩
end Go.Proofs.YtoppaphffnojdaaGreat

/-
  What an argument of a law holds, as a value of a plain type: whatever can be read of it, it stands for. Conditions: the type's shape is as its code says (a closed fact).
-/
set_option linter.unusedSectionVars false
namespace Go.Vw
open Go.RowKit Go.ChangeShapes Go.WideShapes

mutual
inductive Ty where
  | int (k : IntKind)
  | bool
  | str
  | struct (fs : Tys)
  | slice (e : Ty)
inductive Tys where
  | nil
  | cons (t : Ty) (ts : Tys)
end
mutual
def Ty.Val : Ty → Type
  | .int _ => Int
  | .bool => Bool
  | .str => List UInt8
  | .struct fs => fs.Val
  | .slice e => List e.Val
def Tys.Val : Tys → Type
  | .nil => Unit
  | .cons t ts => t.Val × ts.Val
end
mutual
def Ty.zero : (t : Ty) → t.Val
  | .int _ => (0 : Int)
  | .bool => false
  | .str => ([] : List UInt8)
  | .struct fs => fs.zero
  | .slice e => ([] : List e.Val)
def Tys.zero : (ts : Tys) → ts.Val
  | .nil => ()
  | .cons t ts => (t.zero, ts.zero)
end
mutual
def Ty.width : Ty → Nat
  | .int _ => 1
  | .bool => 1
  | .str => 1
  | .struct fs => fs.width
  | .slice _ => 1
def Tys.width : Tys → Nat
  | .nil => 0
  | .cons t ts => t.width + ts.width
end
mutual
def Ty.cells : (t : Ty) → t.Val → List D
  | .int k, (n : Int) => [.int k n]
  | .bool, (b : Bool) => [.bool b]
  | .str, (s : List UInt8) => [.str s]
  | .struct fs, v => fs.cells v
  | .slice e, (l : List e.Val) => [.sl e.width e.cells e.zero l]
def Tys.cells : (ts : Tys) → ts.Val → List D
  | .nil, _ => []
  | .cons t ts, v => t.cells v.1 ++ ts.cells v.2
end
mutual
def Ty.wf : (t : Ty) → t.Val → Prop
  | .int k, (n : Int) => (Lit.int k n).wf = true
  | .bool, _ => True
  | .str, (s : List UInt8) => s.length ≤ maxLen
  | .struct fs, v => fs.wf v
  | .slice e, (l : List e.Val) => l.length ≤ maxLen ∧ ∀ a ∈ l, e.wf a
def Tys.wf : (ts : Tys) → ts.Val → Prop
  | .nil, _ => True
  | .cons t ts, v => t.wf v.1 ∧ ts.wf v.2
end
mutual
def Ty.ok (P : Program) : Ty → TypeId → Bool
  | .int k, t => match P.underlying t with | some (.int k') => decide (k' = k) | _ => false
  | .bool, t => match P.underlying t with | some .bool => true | _ => false
  | .str, t => match P.underlying t with | some .string => true | _ => false
  | .struct fs, t => match P.underlying t with | some (.struct fields) => Nat.beq (P.cellsOf t) fs.width && Tys.ok P fs fields.toList 0 | _ => false
  | .slice e, t => match P.underlying t with | some (.slice te) => Nat.beq (P.cellsOf te) e.width && Nat.blt 0 e.width && Ty.ok P e te | _ => false
def Tys.ok (P : Program) : Tys → List Field → Nat → Bool
  | .nil, fs, _ => match fs with | [] => true | _ :: _ => false
  | .cons t ts, fs, off => match fs with
    | f :: fs => Nat.beq f.offset off && Nat.beq (P.cellsOf f.type) t.width && Ty.ok P t f.type && Tys.ok P ts fs (off + t.width)
    | [] => false
end
mutual
theorem Ty.cells_len : ∀ (t : Ty) (v : t.Val), (t.cells v).length = t.width
  | .int k, v => rfl
  | .bool, v => rfl
  | .str, v => rfl
  | .struct fs, v => by simp only [Ty.cells, Ty.width]; exact Tys.cells_len fs v
  | .slice e, v => rfl
theorem Tys.cells_len : ∀ (ts : Tys) (v : ts.Val), (ts.cells v).length = ts.width
  | .nil, v => rfl
  | .cons t ts, v => by simp only [Tys.cells, Tys.width, List.length_append]; rw [Ty.cells_len t v.1, Tys.cells_len ts v.2]
end

def allF (w : World) : Nat → Prop := fun b => b < w.heap.size
section
variable {H : Type} {enc : TypeId × Value → H} {P : Program} {w : World} {held : Bool}

theorem dra_one {F : Nat → Prop} {g : Nat → Option Value} {off : Nat} {x : D} {v : Value} (h0 : g off = some v) (h1 : v.oneCell' = true) (h : DR F w x v) : DRA F w g off [x] := by
  simp only [DRA]; exact ⟨⟨v, h0, h1, h⟩, trivial⟩
theorem dra_app {F : Nat → Prop} {g : Nat → Option Value} {xs ys : List D} {off : Nat} (h : DRA F w g off xs) (k : DRA F w g (off + xs.length) ys) : DRA F w g off (xs ++ ys) := by
  rw [DRA_iff] at h k ⊢
  intro i c hi
  by_cases hl : i < xs.length
  · rw [List.getElem?_append_left hl] at hi; exact h i c hi
  · rw [List.getElem?_append_right (by omega)] at hi
    obtain ⟨v, h1, h2⟩ := k _ c hi
    exact ⟨v, by rw [← h1]; congr 1; omega, h2⟩
theorem row_of_cells {a : Addr} {n : Nat} {cs : List Value} (h : w.cells? 0 a n = some cs) (hn : 0 < n) : ∃ b o arr ty fz, a = ⟨b, o, none⟩ ∧ w.heap[b]? = some (.cells arr ty fz) := by
  obtain ⟨_, hl, hc⟩ := World.cells?_some h
  have h0 := hc 0 hn
  rw [List.getElem?_eq_getElem (by omega)] at h0
  obtain ⟨b, o, sp⟩ := a
  unfold World.cell? at h0
  split at h0
  · rename_i c ty fz hh
    split at h0
    · cases h0
    · rename_i hs
      cases sp with
      | none => exact ⟨b, o, c, ty, fz, rfl, hh⟩
      | some s => exact absurd rfl hs
  · cases h0

mutual
theorem Ty.reads : ∀ (ty : Ty) (fuel : Nat) (t : TypeId) (cs : List Value) (x : DataW H × List MemPlace), ty.ok P t = true → DataW.trod enc P w 0 (fun _ => true) held fuel t cs = some x → ∃ v : ty.Val, ty.wf v ∧ cs.length = ty.width ∧ DRA (allF w) w (fun i => cs[i]?) 0 (ty.cells v)
  | .int k, fuel, t, cs, x, hok, h => by
    simp only [Ty.ok] at hok
    split at hok
    · rename_i k' hu
      have hk := of_decide_eq_true hok
      subst hk
      obtain ⟨n, rfl, _, hw⟩ := DataW.trod_int hu h
      exact ⟨(n : Int), hw, rfl, dra_one rfl rfl (by simp only [DR])⟩
    · cases hok
  | .bool, fuel, t, cs, x, hok, h => by
    simp only [Ty.ok] at hok
    split at hok
    · rename_i hu
      obtain ⟨b, rfl, _⟩ := DataW.trod_bool hu h
      exact ⟨(b : Bool), trivial, rfl, dra_one rfl rfl (by simp only [DR])⟩
    · cases hok
  | .str, fuel, t, cs, x, hok, h => by
    simp only [Ty.ok] at hok
    split at hok
    · rename_i hu
      obtain ⟨s, rfl, _, hs⟩ := DataW.trod_string hu h
      refine ⟨(s.data.toList : List UInt8), ?_, rfl, dra_one rfl rfl (by simp only [DR])⟩
      simp only [Ty.wf]
      rw [Array.length_toList]; exact hs
    · cases hok
  | .struct fs, fuel, t, cs, x, hok, h => by
    simp only [Ty.ok] at hok
    split at hok
    · rename_i fields hu
      simp only [Bool.and_eq_true] at hok
      obtain ⟨hw, hf⟩ := hok
      have hw := Nat.eq_of_beq_eq_true hw
      obtain ⟨xs, n, rfl, _, hl, hxl, hx⟩ := DataW.trod_struct hu h
      have hall : ∀ (i : Nat) (f : Field), fields.toList[i]? = some f → ∃ y, DataW.trod enc P w 0 (fun _ => true) held n f.type ((cs.drop f.offset).take (P.cellsOf f.type)) = some y := fun i f hi => by
        rw [Array.getElem?_toList] at hi
        have hlt := (Array.getElem?_eq_some_iff.1 hi).1
        have := hx i f hi
        rw [List.getElem?_eq_getElem (by omega)] at this
        exact ⟨_, this⟩
      obtain ⟨v, h1, h2⟩ := Tys.reads fs n fields.toList 0 cs hf hall
      exact ⟨v, h1, by rw [hl, hw]; rfl, h2⟩
    · cases hok
  | .slice e, fuel, t, cs, x, hok, h => by
    simp only [Ty.ok] at hok
    split at hok
    · rename_i te hu
      simp only [Bool.and_eq_true, Nat.blt_eq] at hok
      obtain ⟨⟨hw, hw0⟩, he⟩ := hok
      have hw := Nat.eq_of_beq_eq_true hw
      rcases Go.Deep.open_slice hu h with ⟨rfl, _⟩ | ⟨a, len, cap, m, n, Dx, Pl, rfl, hb, hlc, hcm, hm, _, hi⟩
      · exact ⟨([] : List e.Val), ⟨by simp, fun a h => by simp at h⟩, rfl, dra_one rfl rfl (by simp only [DR]; exact .inl ⟨⟨_, _, rfl⟩, trivial⟩)⟩
      · have hlm : len ≤ m := by rw [hm]; split <;> omega
        have each : ∀ i, i < len → ∃ v : e.Val, e.wf v ∧ ∃ cs', w.cells? 0 (a.add (i * P.cellsOf te)) (P.cellsOf te) = some cs' ∧ DRA (allF w) w (fun j => cs'[j]?) 0 (e.cells v) := fun i hlt => by
          obtain ⟨cs', h1, h2⟩ := hi i (by omega)
          obtain ⟨v, q1, q2, q3⟩ := Ty.reads e n te cs' _ he h2
          exact ⟨v, q1, cs', h1, q3⟩
        have : ∃ V : Nat → e.Val, ∀ i, i < len → (e.wf (V i) ∧ ∃ cs', w.cells? 0 (a.add (i * P.cellsOf te)) (P.cellsOf te) = some cs' ∧ DRA (allF w) w (fun j => cs'[j]?) 0 (e.cells (V i))) :=
          ⟨fun i => if h : i < len then (each i h).choose else e.zero, fun i h => by
            simp only [h, dif_pos]
            exact (each i h).choose_spec⟩
        obtain ⟨V, hV⟩ := this
        refine ⟨((List.range len).map V : List e.Val), ⟨by simp; omega, fun v hv => ?_⟩, rfl, dra_one rfl rfl ?_⟩
        · simp only [List.mem_map, List.mem_range] at hv
          obtain ⟨i, hlt, rfl⟩ := hv
          exact (hV i hlt).1
        simp only [DR]
        simp only [if_true] at hm
        by_cases hc0 : cap = 0
        · have hl0 : len = 0 := by omega
          subst hl0 hc0
          exact .inl ⟨⟨_, _, rfl⟩, by simp⟩
        · obtain ⟨cs0, h0, _⟩ := hi 0 (by omega)
          rw [Nat.zero_mul, show a.add 0 = a by simp [Addr.add]] at h0
          obtain ⟨b, o, arr, ty, fz, ha, hh⟩ := row_of_cells h0 (by omega)
          have ha' : a = ⟨b, a.off, none⟩ := by subst ha; rfl
          refine .inr ⟨b, a.off, cap, arr, ty, fz, by rw [ha']; simp, by simpa using hlc, lt_of_heap hh, hh, fun i v hv => ?_⟩
          have hlt : i < len := by have := (List.getElem?_eq_some_iff.1 hv).1; simpa using this
          simp [hlt] at hv
          subst hv
          obtain ⟨_, cs', h1, h2⟩ := hV i hlt
          refine ⟨Ty.cells_len _ _, ?_⟩
          obtain ⟨_, hcl, hcc⟩ := World.cells?_some h1
          rw [DRA_iff] at h2 ⊢
          intro j c hj
          obtain ⟨u, p1, p2⟩ := h2 j c hj
          have hjl := (List.getElem?_eq_some_iff.1 hj).1
          rw [Ty.cells_len] at hjl
          refine ⟨u, ?_, p2⟩
          have h3 := hcc j (by omega)
          rw [Nat.zero_add] at p1
          rw [p1, ha', add_plain, add_plain] at h3
          simp only [World.cell?, hh] at h3
          rw [← hw]
          simpa using h3
    · cases hok
theorem Tys.reads : ∀ (ts : Tys) (n : Nat) (fields : List Field) (off : Nat) (cs : List Value), ts.ok P fields off = true → (∀ (i : Nat) (f : Field), fields[i]? = some f → ∃ y, DataW.trod enc P w 0 (fun _ => true) held n f.type ((cs.drop f.offset).take (P.cellsOf f.type)) = some y) → ∃ v : ts.Val, ts.wf v ∧ DRA (allF w) w (fun i => cs[i]?) off (ts.cells v)
  | .nil, n, fields, off, cs, hok, h => ⟨(), trivial, by simp only [Tys.cells, DRA]⟩
  | .cons t ts, n, fields, off, cs, hok, h => by
    simp only [Tys.ok] at hok
    split at hok
    · rename_i f fs
      simp only [Bool.and_eq_true] at hok
      obtain ⟨⟨⟨h1, h2⟩, h3⟩, h4⟩ := hok
      have h1 := Nat.eq_of_beq_eq_true h1
      have h2 := Nat.eq_of_beq_eq_true h2
      obtain ⟨y, hy⟩ := h 0 f rfl
      obtain ⟨v, q1, q2, q3⟩ := Ty.reads t n f.type _ y h3 hy
      obtain ⟨v2, r1, r2⟩ := Tys.reads ts n fs (off + t.width) cs h4 (fun i g hg => h (i + 1) g (by simpa using hg))
      refine ⟨(v, v2), ⟨q1, r1⟩, ?_⟩
      simp only [Tys.cells]
      refine dra_app ?_ (by rw [Ty.cells_len]; exact r2)
      rw [DRA_iff] at q3 ⊢
      intro i c hi
      obtain ⟨u, p1, p2⟩ := q3 i c hi
      have hlt := (List.getElem?_eq_some_iff.1 hi).1
      rw [Ty.cells_len] at hlt
      refine ⟨u, ?_, p2⟩
      rw [Nat.zero_add, List.getElem?_take, if_pos (by omega), List.getElem?_drop, h1] at p1
      exact p1
    · cases hok
end

def Ty.top : (t : Ty) → t.Val → D
  | .int k, (n : Int) => .int k n
  | .bool, (b : Bool) => .bool b
  | .str, (s : List UInt8) => .str s
  | .struct fs, v => .agg (fs.cells v)
  | .slice e, (l : List e.Val) => .sl e.width e.cells e.zero l
theorem Ty.topReads {r : Reach} {b0 : Nat} : ∀ (ty : Ty) (t : TypeId) (v : Value) (d : DataW H) (ps : List MemPlace), ty.ok P t = true → Value.okWide P w r b0 t v → DataW.Trod enc P w 0 (fun _ => true) held t v d ps → ∃ x : ty.Val, ty.wf x ∧ DR (allF w) w (ty.top x) v := fun ty t v d ps hok hv h => by
  obtain ⟨fuel, h⟩ := h
  obtain ⟨x, h1, h2, h3⟩ := Ty.reads ty fuel t _ _ hok h
  refine ⟨x, h1, ?_⟩
  have one : ∀ (y : D), v.cells.toList = [v] → DRA (allF w) w (fun i => v.cells.toList[i]?) 0 [y] → DR (allF w) w y v := fun y e hd => by
    rw [e] at hd
    simp only [DRA] at hd
    obtain ⟨⟨u, hu, _, hd⟩, _⟩ := hd
    simp at hu; subst hu; exact hd
  cases ty with
  | int k =>
    simp only [Ty.ok] at hok
    split at hok
    · rename_i k' hu
      refine one _ ?_ h3
      cases v <;> first | rfl | (simp [Value.okWide, hu, Cell.okWide, Cell.ok] at hv)
    · cases hok
  | bool =>
    simp only [Ty.ok] at hok
    split at hok
    · rename_i hu
      refine one _ ?_ h3
      cases v <;> first | rfl | (simp [Value.okWide, hu, Cell.okWide, Cell.ok] at hv)
    · cases hok
  | str =>
    simp only [Ty.ok] at hok
    split at hok
    · rename_i hu
      refine one _ ?_ h3
      cases v <;> first | rfl | (simp [Value.okWide, hu, Cell.okWide, Cell.ok] at hv)
    · cases hok
  | struct fs =>
    simp only [Ty.ok] at hok
    split at hok
    · rename_i fields hu
      simp only [Value.okWide, hu] at hv
      obtain ⟨arr, rfl, hs, _⟩ := hv
      simp only [Ty.top, DR]
      refine ⟨arr, rfl, ?_, ?_⟩
      · have hc := Tys.cells_len fs x
        have h2' : arr.size = fs.width := by simpa [Value.cells, Ty.width] using h2
        exact h2'.trans hc.symm
      · rw [DRA_iff] at h3 ⊢
        intro i c hi
        obtain ⟨u, p1, p2⟩ := h3 i c hi
        exact ⟨u, by simpa [Value.cells] using p1, p2⟩
    · cases hok
  | slice e =>
    simp only [Ty.ok] at hok
    split at hok
    · rename_i te hu
      refine one _ ?_ h3
      cases v <;> first | rfl | (simp [Value.okWide, hu, Cell.okWide, Cell.ok] at hv)
    · cases hok

def Tys.tops : (ts : Tys) → ts.Val → List D
  | .nil, _ => []
  | .cons t ts, v => t.top v.1 :: ts.tops v.2
def Tys.oks (P : Program) : Tys → List TypeId → Bool
  | .nil, l => match l with | [] => true | _ :: _ => false
  | .cons t ts, l => match l with | a :: r => Ty.ok P t a && Tys.oks P ts r | [] => false
theorem Tys.tops_len : ∀ (ts : Tys) (l : List TypeId) (v : ts.Val), ts.oks P l = true → (ts.tops v).length = l.length
  | .nil, [], _, _ => rfl
  | .nil, _ :: _, _, h => by simp [Tys.oks] at h
  | .cons t ts, [], _, h => by simp [Tys.oks] at h
  | .cons t ts, a :: r, v, h => by
    simp only [Tys.oks, Bool.and_eq_true] at h
    simp only [Tys.tops, List.length_cons, Tys.tops_len ts r v.2 h.2]
theorem Tys.topsRead {r : Reach} {b0 : Nat} : ∀ (tys : Tys) (ts : List TypeId) (vs : List Value) (ds : List (DataW H)) (ps : List MemPlace), tys.oks P ts = true → (∀ (j : Nat) t v, ts[j]? = some t → vs[j]? = some v → Value.okWide P w r b0 t v) → DataW.TrodAll enc P w 0 (fun _ => true) held ts vs ds ps → ∃ x : tys.Val, tys.wf x ∧ vs.length = ts.length ∧ ∀ g off, (∀ i, g (off + i) = vs[i]?) → DRT (allF w) w g off (tys.tops x)
  | .nil, [], vs, ds, ps, _, _, h => by
    cases vs <;> cases ds <;> first | (exact absurd h id) | exact ⟨(), trivial, rfl, fun g off _ => by simp only [Tys.tops, DRT]⟩
  | .nil, _ :: _, _, _, _, hok, _, _ => by simp [Tys.oks] at hok
  | .cons t ts, [], _, _, _, hok, _, _ => by simp [Tys.oks] at hok
  | .cons t ts, a :: r', vs, ds, ps, hok, hv, h => by
    simp only [Tys.oks, Bool.and_eq_true] at hok
    cases vs with
    | nil => cases ds <;> exact absurd h id
    | cons v vs =>
      cases ds with
      | nil => exact absurd h id
      | cons d ds =>
        obtain ⟨p, q, h1, h2, _⟩ := h
        obtain ⟨x, g1, g2⟩ := Ty.topReads t a v d p hok.1 (hv 0 a v rfl rfl) h1
        obtain ⟨y, k1, k2, k3⟩ := Tys.topsRead ts r' vs ds q hok.2 (fun j t' v' e1 e2 => hv (j + 1) t' v' (by simpa using e1) (by simpa using e2)) h2
        refine ⟨(x, y), ⟨g1, k1⟩, by simp [k2], fun g off hg => ?_⟩
        simp only [Tys.tops, DRT]
        refine ⟨⟨v, by simpa using hg 0, g2⟩, k3 g (off + 1) (fun i => ?_)⟩
        rw [Nat.add_assoc, Nat.add_comm 1 i, hg (i + 1)]; simp
end
end Go.Vw

/-
  From a contract on values of plain types to what a law's row asks of a call. Conditions: closed facts of the program's types.
-/
namespace Go.Vw
open Go.ChangeShapes Go.WideShapes Go.ChangeAt Go.RowKit

theorem post_below {H : Type} {enc : TypeId × Value → H} {P : Program} {f : Func} {s : ChangeSpec} {apart fresh handsOn again : Bool} {W W' : World} {args : Array Value} {v : Value} {ds gs : List (DataW H)} {before pa pv : List MemPlace}
    (hW : DataW.Whole enc P f.params.toList s.vars apart W args.toList ds gs before)
    (hres : ∀ (b : Nat) (sp : Nat → Bool) (hd : Bool), DataW.TrodAll enc P W' b sp hd f.resultTypes.toList (v.resultList f.resultTypes.size) (s.fn H (ds ++ gs)).results [])
    (hargs : ∀ sp : Nat → Bool, (∀ p ∈ before, sp p.block = true) → DataW.TrodAll enc P W' 0 sp true f.params.toList args.toList (s.fn H (ds ++ gs)).args pa)
    (hvars : ∀ sp : Nat → Bool, (∀ p ∈ before, sp p.block = true) → DataW.TrodVars enc P W' sp s.vars (s.fn H (ds ++ gs)).vars pv)
    (hps : before = pa ++ pv) (hb : Below W.heap.size W W')
    (hok : ∀ (j : Nat) (t : TypeId) (r : Value), f.resultTypes[j]? = some t → (v.resultList f.resultTypes.size)[j]? = some r → Value.okWide P W' .any 0 t r) :
    s.post enc P f apart fresh handsOn again W args v W' := by
  have hlt := hW.lt
  have hin : ∀ p ∈ before, (fun b => decide (b < W.heap.size)) p.block = true := fun p hp => decide_eq_true (hlt p hp)
  obtain ⟨_, _, _, _, _, hz, hn⟩ := id hW
  refine ⟨ds, gs, before, [], pa, pv, hW, hres _ _ _, hargs _ hin, hvars _ hin, hb.frame _, fun _ => ⟨hok, _, _, ([] ++ pa) ++ pv, ⟨[] ++ pa, pv, trodAll_append (hargs _ fun _ _ => rfl) (hres _ _ _), hvars _ fun _ _ => rfl, rfl, fun b off hp => ?_, fun ha => ?_⟩, fun p hp _ => ?_⟩⟩
  · have hp' : MemPlace.cell b off ∈ before := by rw [hps]; simpa using hp
    rw [hb.frozen (hlt _ hp')]
    exact hz b off hp'
  · have := hn ha
    rw [hps] at this
    simpa using this
  · rw [hps]; simpa using hp

theorem trodAll_stays {H : Type} {enc : TypeId × Value → H} {P : Program} {W W' : World} {sp' : Nat → Bool} (hl : laidOutB P = true) : ∀ {ts : List TypeId} {vs : List Value} {ds : List (DataW H)} {ps : List MemPlace}, (ts.all fun t => P.readableRec t && decide (t < P.types.size)) = true → DataW.TrodAll enc P W 0 (fun _ => true) true ts vs ds ps → (∀ p ∈ ps, W.sameAt W' p) → (∀ p ∈ ps, sp' p.block = true) → DataW.TrodAll enc P W' 0 sp' true ts vs ds ps
  | [], [], [], _, _, h, _, _ => h
  | [], _ :: _, _, _, _, h, _, _ => absurd h id
  | [], [], _ :: _, _, _, h, _, _ => absurd h id
  | _ :: _, [], _, _, _, h, _, _ => absurd h id
  | _ :: _, _ :: _, [], _, _, h, _, _ => absurd h id
  | t :: ts, v :: vs, d :: ds, _, ht, ⟨p, q, h1, h2, e⟩, hsame, hs => by
    subst e
    simp only [List.all_cons, Bool.and_eq_true, decide_eq_true_eq] at ht
    exact ⟨p, q, WideElems.Trod_stays hl ht.1.1 ht.1.2 h1 (fun x hx => hsame x (by simp [hx])) (fun x hx => hs x (by simp [hx])), trodAll_stays hl ht.2 h2 (fun x hx => hsame x (by simp [hx])) (fun x hx => hs x (by simp [hx])), rfl⟩

theorem law_contract {P : Program} {f : FuncId} {fn : Func} {s : ChangeSpec} {rt : TypeId} (tys : Tys) (hl : laidOutB P = true) (hok : tys.oks P fn.params.toList = true) (hp : (fn.params.toList.all fun t => P.readableRec t && decide (t < P.types.size)) = true) (hv : s.vars = []) (hr : fn.resultTypes = #[rt]) (hrt : P.underlying rt = some .bool) (hc : ∀ x : tys.Val, tys.wf x → Ret P f (tys.tops x) (· = .bool true))
    (H : Type) (enc : TypeId × Value → H) (hs : ∀ ds : List (DataW H), ds.length = fn.params.toList.length → (s.fn H ds).results = [.lit (.bool true)] ∧ (s.fn H ds).args = ds ∧ (s.fn H ds).vars = [])
    (W : World) (base : Nat) (args : Array Value) (ds gs : List (DataW H)) (before : List MemPlace)
    (hval : ∀ (j : Nat) t v, fn.params[j]? = some t → args[j]? = some v → Value.okWide P W .any base t v)
    (hW : DataW.Whole enc P fn.params.toList s.vars false W args.toList ds gs before) :
    Calls P f args W fun e W' => ∃ v, e = .returned v ∧ s.post enc P fn false true false false W args v W' := by
  have hW' := hW
  have hlt := hW.lt
  obtain ⟨p, q, hA, hV, rfl, hfz, hnd⟩ := hW
  rw [hv] at hV
  obtain ⟨rfl, rfl⟩ := trodVars_none hV
  obtain ⟨x, hx, hlen, hd⟩ := Tys.topsRead tys fn.params.toList args.toList ds p hok (fun j t v h1 h2 => hval j t v (by simpa using h1) (by simpa using h2)) hA
  have hdl : ds.length = fn.params.toList.length := by
    have aux : ∀ (ts : List TypeId) (vs : List Value) (ds : List (DataW H)) (ps : List MemPlace), DataW.TrodAll enc P W 0 (fun _ => true) true ts vs ds ps → ds.length = ts.length := by
      intro ts
      induction ts with
      | nil => intro vs ds ps h; cases vs <;> cases ds <;> first | (exact absurd h id) | rfl
      | cons t ts ih =>
        intro vs ds ps h
        cases vs with
        | nil => cases ds <;> exact absurd h id
        | cons v vs => cases ds with
          | nil => exact absurd h id
          | cons d ds => obtain ⟨_, q, _, h2, _⟩ := h; simp [ih _ _ _ h2]
    exact aux _ _ _ _ hA
  obtain ⟨s1, s2, s3⟩ := hs ds hdl
  have ht := Tys.tops_len tys fn.params.toList x hok
  refine ((hc x hx).run (allF W) W args (fun b h => h) (by rw [ht, ← hlen]; simp) (hd _ 0 (fun i => by simp))).mono fun e W' ⟨v, r, F', he, hr', hb, _, _, hv'⟩ => ?_
  subst he hr'
  simp only [Vw.DR] at hv'
  subst hv'
  refine ⟨_, rfl, post_below (pa := p) (pv := []) hW' ?_ ?_ ?_ rfl hb ?_⟩
  · intro b sp hd'
    simp only [List.append_nil, s1, hr]
    exact trodAll_cons_mk (shut_bool hrt _) trodAll_mk0
  · intro sp hsp
    simp only [List.append_nil, s2]
    exact trodAll_stays hl hp hA (fun y hy => hb.same (hlt y (by simp [hy]))) (fun y hy => hsp y (by simp [hy]))
  · intro sp hsp
    simp only [List.append_nil, s3, hv]
    rfl
  · exact ok_one hr rfl (okWide_bool_mk hrt _)
end Go.Vw

/-
  A law's rational numbers and intervals as they come in. Conditions: as each says.
-/
namespace Go.Vw
abbrev tU : Ty := .slice (.int .u32)
abbrev tInt : Ty := .struct (.cons .bool (.cons tU .nil))
abbrev tRat : Ty := .struct (.cons tInt (.cons tU .nil))
def toN (l : List Int) : List Nat := l.map Int.toNat
theorem toN_len (l : List Int) : (toN l).length = l.length := List.length_map ..
theorem u32_wf {z : Int} (h : (Lit.int .u32 z).wf = true) : 0 ≤ z ∧ z < 4294967296 := by
  simp [Lit.wf, IntKind.min, IntKind.max, IntKind.signed, IntKind.bits] at h
  omega
theorem leU {l : List Int} (h : ∀ z ∈ l, (Lit.int .u32 z).wf = true) : LeD (.sl 1 (Ty.int .u32).cells (0 : Int) l) (u32s (toN l)) := by
  refine LeD.sl (toN_len l).symm fun i (a : Int) b (ha : (l[i]? : Option Int) = some a) hb => ⟨rfl, ?_⟩
  have hm : a ∈ l := List.mem_of_getElem? ha
  have hw := u32_wf (h a hm)
  unfold toN at hb
  rw [List.getElem?_map, ha] at hb
  simp only [Option.map_some, Option.some.injEq] at hb
  subst hb
  exact leN hw.1
theorem wf_toN {l : List Int} (h : ∀ z ∈ l, (Lit.int .u32 z).wf = true) : WF (toN l) := by
  intro x hx
  unfold toN at hx
  obtain ⟨z, hz, rfl⟩ := List.mem_map.1 hx
  have := u32_wf (h z hz)
  show z.toNat < 4294967296
  omega
abbrev vRat : Type := (Bool × List Int × Unit) × List Int × Unit
def toR (x : vRat) : R3 := (x.1.1, toN x.1.2.1, toN x.2.1)
def wfRat (x : vRat) : Prop := (x.1.2.1.length ≤ maxLen ∧ ∀ z ∈ x.1.2.1, (Lit.int .u32 z).wf = true) ∧ (x.2.1.length ≤ maxLen ∧ ∀ z ∈ x.2.1, (Lit.int .u32 z).wf = true)
theorem wfRat_of {x : vRat} (h : Ty.wf tRat x) : wfRat x := ⟨h.1.2.1, h.2.1⟩
theorem leRat {x : vRat} (h : wfRat x) : LeL (Ty.cells tRat x) (rC (toR x)) :=
  LeL.cons (LeD.refl _) (LeL.cons (leU h.1.2) (LeL.cons (leU h.2.2) LeL.nil))
structure RawR (r : R3) : Prop where
  wm : WF r.2.1
  wd : WF r.2.2
  lm : r.2.1.length ≤ 9223372036854775807
  ld : r.2.2.length ≤ 9223372036854775807
def lightR (r : R3) : Bool := decide (r.2.1.length ≤ 8) && decide (r.2.2.length ≤ 8)
theorem RawR.light {r : R3} (h : RawR r) (hl : lightR r = true) : RatOk r 9 := by
  unfold lightR at hl
  rw [Bool.and_eq_true, decide_eq_true_eq, decide_eq_true_eq] at hl
  exact ⟨h.wm, h.wd, Nat.lt_succ_of_le hl.1, Nat.lt_succ_of_le hl.2⟩
theorem rawR {x : vRat} (h : wfRat x) : RawR (toR x) :=
  ⟨wf_toN h.1.2, wf_toN h.2.2, by show (toN _).length ≤ _; rw [toN_len]; exact h.1.1, by show (toN _).length ≤ _; rw [toN_len]; exact h.2.1⟩
theorem i64_wf {z : Int} (h : (Lit.int .i64 z).wf = true) : -9223372036854775808 ≤ z ∧ z < 9223372036854775808 := by
  simp [Lit.wf, IntKind.min, IntKind.max, IntKind.signed, IntKind.bits] at h
  omega
def toRs (l : List vRat) : List R3 := l.map toR
theorem leRatsD {l : List vRat} (h : Ty.wf (.slice tRat) l) : LeD (Ty.top (.slice tRat) l) (rsD (toRs l)) := by
  refine LeD.sl (List.length_map ..).symm fun i (a : vRat) b (ha : (l[i]? : Option vRat) = some a) hb => ⟨rfl, ?_⟩
  have hm : a ∈ l := List.mem_of_getElem? ha
  unfold toRs at hb
  rw [List.getElem?_map, ha] at hb
  have e : toR a = b := Option.some.inj hb
  subst e
  exact leRat (wfRat_of (h.2 a hm))
theorem rawRs {l : List vRat} (h : Ty.wf (.slice tRat) l) : ∀ r ∈ toRs l, RawR r := by
  intro r hr
  unfold toRs at hr
  obtain ⟨a, ha, rfl⟩ := List.mem_map.1 hr
  exact rawR (wfRat_of (h.2 a ha))
theorem lenRs {l : List vRat} (h : Ty.wf (.slice tRat) l) : (toRs l).length ≤ 9223372036854775807 := by
  unfold toRs
  rw [List.length_map]; exact h.1
end Go.Vw

set_option maxHeartbeats 4000000
namespace Go.Proofs.YtoppaphffnojdaaGreat
open Go.Vw
attribute [local irreducible] awp awpL awpR Int.decLt Int.decLe Int.instDecidableEq

theorem integer_ToIntN (n : Nat) (h : n < 9223372036854775808) : Ret Tryz.prog 34 [zD (n : Int)] (· = .tup [.int .i64 n, .bool true]) := by
  have ln := u64_len (v := n) (by omega)
  have hv := integer_valueZ (n : Int) (by rw [Int.natAbs_natCast]; omega)
  rw [zD_nat] at hv ⊢
  have hu := natural_UintN n (by omega)
  rw [if_pos (by omega)] at hu
  refine ret_of_awp tab Tryz.func34 rfl rfl (Nat.le_of_ble_eq_true rfl) (fun w0 F0 => ?_)
  repeat' (first | refine wG ?_ | refine wC hv ?_ | refine wC hu ?_ | refine wS ?_ ?_ <;> intro _ | refine finG ?_)
  rfl
theorem ref01_UintN (n : Nat) (h : n < 18446744073709551616) : Ret Tryz.prog 79 [u32s (limbs n)] (· = .tup [.int .u64 n, .bool true]) := by
  have ln := u64_len h
  have ht := ref01_TakeN n (by omega)
  have vl := val_limbs n
  have wl := wf_limbs n
  generalize limbs n = p at *
  refine ret_of_awp tab Tryz.func79 rfl rfl (Nat.le_of_ble_eq_true rfl) (fun w0 F0 => ?_)
  repeat' (first | refine wG ?_ | refine wC ht ?_ | refine wS ?_ ?_ <;> intro _ | refine finG ?_)
  refine awp_loop1 (fun (j : Nat) => ([(0, .d (u32s p)), (4, .d (.int .u64 (val (p.drop j)))), (5, .d (.int .i64 ((j : Int) - 1)))], [])) (fun j => j ≤ p.length) (fun j => j) p.length (Nat.le_refl _) ⟨rfl, by rw [List.drop_length]; rfl, rfl, rfl⟩ trivial (fun j hj => ?_)
  by_cases hin : 0 < j
  · obtain ⟨i, rfl⟩ : ∃ i, j = i + 1 := ⟨j - 1, by omega⟩
    have gp := wl.getD i
    rw [B_val] at gp
    have hds : p.drop i = p.getD i 0 :: p.drop (i + 1) := by
      rw [List.drop_eq_getElem_cons (show i < p.length by omega), List.getD_eq_getElem?_getD, List.getElem?_eq_getElem (show i < p.length by omega)]; rfl
    have hv : val (p.drop (i + 1)) < 4294967296 := by
      have h1 := val_lt (wl.drop (i + 1))
      have h2 : (p.drop (i + 1)).length ≤ 1 := by simp; omega
      have h3 := Nat.pow_le_pow_right (show 0 < B by decide) h2
      rw [Nat.pow_one] at h3
      exact Nat.lt_of_lt_of_le h1 h3
    have hor := or_two (a := val (p.drop (i + 1))) gp
    have e1 : ((((i + 1 : Nat) : Int)) - 1).toNat = i := by omega
    repeat' (first | refine wG ?_ | refine wS ?_ ?_ <;> intro _ | refine finG ?_)
    refine ⟨i, by omega, by omega, ⟨rfl, iv ?_, iv (by omega), rfl⟩, trivial⟩
    rw [hds, val, e1, Nat.or_comm, Int.emod_eq_of_lt (by omega) (by omega), hor]
  · have : j = 0 := by omega
    subst this
    rw [List.drop_zero, vl]
    repeat' (first | refine wG ?_ | refine wS ?_ ?_ <;> intro _ | refine finG ?_)
    rfl
end Go.Proofs.YtoppaphffnojdaaGreat
